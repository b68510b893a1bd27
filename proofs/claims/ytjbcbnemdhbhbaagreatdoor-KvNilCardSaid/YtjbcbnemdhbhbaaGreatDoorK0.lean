import Derived.WalkKit
import Derived.Deep.Draws
import Derived.Deep.AppendLies
import Derived.OneCell
import Derived.Laws.Rows
import Derived.Maps.AppendAt
import Derived.OwnWalk
import Derived.Lib.FrozenHead
import Derived.Laws.IdiomStrings
import Derived.PlainAid
import Derived.Test.YtjbcbnemdhbhbaaGreatDoorChecked
import Derived.WalkSpells
import Derived.WalkLawsBesides
import Derived.Deep.QuietTactic
import Derived.BigQuiet
import Derived.Lib.Hide
import Derived.Deep.LoopGhost
import Derived.Outline
import Derived.Laws.BytesArg
import Derived.Deep.DeepCutAuto
import Derived.Deep.RegionHeld3
import Derived.StillTailTactics
import Derived.Deep.RegionWith
import Derived.Laws.BitsAllLaws
namespace Go.Proofs.YtjbcbnemdhbhbaaGreatDoor
open Go.RowKit
def Bk (w : World) (g : Nat) (t : TypeId) (cs : Array Value) : Prop := w.heap[g]? = some (.cells cs t (0, 0))
theorem Bk.lt {w : World} {g : Nat} {t : TypeId} {cs : Array Value} (h : Bk w g t cs) : g < w.heap.size := lt_of_block h
theorem Bk.cell {w : World} {g : Nat} {t : TypeId} {cs : Array Value} (h : Bk w g t cs) (i : Nat) : w.cell? ⟨g, i, none⟩ = cs[i]? := cell_of_row w g i cs t (0, 0) h
theorem Bk.frozen {w : World} {g : Nat} {t : TypeId} {cs : Array Value} (h : Bk w g t cs) (i : Nat) : w.frozen? ⟨g, i, none⟩ = false := by
  unfold Bk at h
  simp [World.frozen?, h]
theorem Bk.drewN {w : World} {g : Nat} {t : TypeId} {cs : Array Value} (h : Bk w g t cs) (n : Nat) : Bk (w.drewN n) g t cs := h
theorem Bk.drew {w : World} {g : Nat} {t : TypeId} {cs : Array Value} (h : Bk w g t cs) : Bk w.drew g t cs := h
theorem Bk.alloc {w : World} {g : Nat} {t : TypeId} {cs : Array Value} (h : Bk w g t cs) (o : Obj) : Bk (w.alloc o) g t cs := (Below.heap_alloc w o g h.lt).trans h
theorem Bk.new (w : World) (t : TypeId) (cs : Array Value) : Bk (w.alloc (.cells cs t)) w.heap.size t cs := heap_alloc_new w _
theorem Bk.put {w : World} {g : Nat} {t : TypeId} {cs : Array Value} (h : Bk w g t cs) (i : Nat) (u : Value) : Bk (w.setCell ⟨g, i, none⟩ u) g t (cs.setIfInBounds i u) := by
  unfold Bk at h ⊢
  simp [World.setCell, Array.getElem?_modify, h]
theorem Bk.far {w : World} {g : Nat} {t : TypeId} {cs : Array Value} (h : Bk w g t cs) {p : Addr} (hp : g ≠ p.block) (u : Value) : Bk (w.setCell p u) g t cs := (Below.heap_setCell w p u g hp).trans h
theorem Bk.ne {w : World} {g g' : Nat} {t t' : TypeId} {cs cs' : Array Value} (h : Bk w g t cs) (h' : Bk w g' t' cs') (hne : t ≠ t') : g ≠ g' := by
  rintro rfl
  unfold Bk at h h'
  rw [h] at h'
  injection h' with h'
  injection h' with _ ht
  exact hne ht
theorem own_ne {w : World} {g base : Nat} {t e : TypeId} {size n : Nat} {v : Value} {xs : List Value} {cs : Array Value} (h : w.ownsRow base e size v n xs) (hg : Bk w g t cs) (hne : e ≠ t) : v.ownBlock ≠ some g := by
  rcases h.2 with ⟨rfl, _⟩ | ⟨g', cap, cur, rfl, _, hh, _⟩
  · simp [Value.ownBlock]
  · intro he
    obtain rfl : g' = g := by simpa [Value.ownBlock] using he
    exact Bk.ne (t := e) hh hg hne rfl
structure Off (S : List Nat) (w w' : World) : Prop where
  os : w'.os = w.os
  tape : w'.tape = w.tape
  output : w'.output = w.output
  size : w.heap.size ≤ w'.heap.size
  block : ∀ k, k < w.heap.size → k ∉ S → w'.heap[k]? = w.heap[k]?
theorem Off.refl (S : List Nat) (w : World) : Off S w w := ⟨rfl, rfl, rfl, Nat.le_refl _, fun _ _ _ => rfl⟩
theorem Off.trans {S : List Nat} {a b c : World} (h : Off S a b) (k : Off S b c) : Off S a c :=
  ⟨k.os.trans h.os, k.tape.trans h.tape, k.output.trans h.output, Nat.le_trans h.size k.size, fun i hi hn => (k.block i (Nat.lt_of_lt_of_le hi h.size) hn).trans (h.block i hi hn)⟩
theorem Off.then {S T : List Nat} {a b c : World} (h : Off S a b) (k : Off T b c) (hT : ∀ g ∈ T, g ∈ S ∨ a.heap.size ≤ g) : Off S a c :=
  ⟨k.os.trans h.os, k.tape.trans h.tape, k.output.trans h.output, Nat.le_trans h.size k.size, fun i hi hn =>
    (k.block i (Nat.lt_of_lt_of_le hi h.size) (fun ht => (hT i ht).elim hn (fun h1 => absurd hi (by omega)))).trans (h.block i hi hn)⟩
theorem Off.mono {S T : List Nat} {a b : World} (h : Off S a b) (hT : ∀ g ∈ S, g ∈ T ∨ a.heap.size ≤ g) : Off T a b :=
  ⟨h.os, h.tape, h.output, h.size, fun i hi hn => h.block i hi (fun ht => (hT i ht).elim hn (fun h1 => absurd hi (by omega)))⟩
theorem Off.drew {S : List Nat} {a w : World} (h : Off S a w) : Off S a w.drew := ⟨h.os, h.tape, h.output, h.size, h.block⟩
theorem Off.drewN {S : List Nat} {a w : World} (h : Off S a w) (n : Nat) : Off S a (w.drewN n) := ⟨h.os, h.tape, h.output, h.size, h.block⟩
theorem Off.alloc {S : List Nat} {a w : World} (h : Off S a w) (o : Obj) : Off S a (w.alloc o) :=
  ⟨h.os, h.tape, h.output, Nat.le_trans h.size (by simp), fun i hi hn => (Below.heap_alloc w o i (Nat.lt_of_lt_of_le hi h.size)).trans (h.block i hi hn)⟩
theorem Off.setCell {S : List Nat} {a w : World} (h : Off S a w) {p : Addr} (hp : p.block ∈ S ∨ a.heap.size ≤ p.block) (u : Value) : Off S a (w.setCell p u) :=
  ⟨h.os, h.tape, h.output, by simpa [World.setCell] using h.size, fun i hi hn => (Below.heap_setCell w p u i (by
    rintro rfl
    rcases hp with hp | hp
    · exact hn hp
    · omega)).trans (h.block i hi hn)⟩
theorem Off.grown {S : List Nat} {a w w' : World} {row : Option Nat} (h : Off S a w) (hg : w.grownBy w' row) (hr : ∀ g, row = some g → g ∈ S ∨ a.heap.size ≤ g) : Off S a w' :=
  ⟨hg.os.trans h.os, hg.tape.trans h.tape, hg.output.trans h.output, Nat.le_trans h.size hg.size, fun i hi hn =>
    (hg.block i (Nat.lt_of_lt_of_le hi h.size) (fun e => (hr i e.symm).elim hn (fun h1 => absurd hi (by omega)))).trans (h.block i hi hn)⟩
theorem Off.of_below {w w' : World} (h : Below w.heap.size w w') (S : List Nat) : Off S w w' := ⟨h.os, h.tape, h.output, h.size, fun i hi _ => h.block i hi⟩
theorem Off.below {S : List Nat} {w w' : World} (h : Off S w w') {B : Nat} (hB : B ≤ w.heap.size) (hS : ∀ g ∈ S, B ≤ g) : Below B w w' :=
  ⟨h.os, h.tape, h.output, h.size, fun i hi => h.block i (by omega) (fun hs => by have := hS i hs; omega)⟩
theorem Off.bk {S : List Nat} {w w' : World} (h : Off S w w') {g : Nat} {t : TypeId} {cs : Array Value} (hb : Bk w g t cs) (hg : g ∉ S) : Bk w' g t cs := (h.block g hb.lt hg).trans hb
theorem Off.cell {S : List Nat} {w w' : World} (h : Off S w w') {p : Addr} (hp : p.block < w.heap.size) (hn : p.block ∉ S) : w'.cell? p = w.cell? p := World.cell?_of_block (h.block p.block hp hn)
theorem Off.own {S : List Nat} {w w' : World} (h : Off S w w') {base : Nat} {e : TypeId} {size n : Nat} {v : Value} {xs : List Value} (ho : w.ownsRow base e size v n xs) (hn : ∀ g, v.ownBlock = some g → g ∉ S) : w'.ownsRow base e size v n xs := by
  obtain ⟨h1, h2⟩ := ho
  refine ⟨h1, ?_⟩
  rcases h2 with h2 | ⟨g, cap, cur, rfl, hb, hh, r⟩
  · exact Or.inl h2
  · exact Or.inr ⟨g, cap, cur, rfl, hb, (h.block g (lt_of_block hh) (hn g rfl)).trans hh, r⟩
theorem own_mono {w : World} {base base' : Nat} {e : TypeId} {size n : Nat} {v : Value} {xs : List Value} (ho : w.ownsRow base e size v n xs) (h : base' ≤ base) : w.ownsRow base' e size v n xs := by
  obtain ⟨h1, h2⟩ := ho
  refine ⟨h1, ?_⟩
  rcases h2 with h2 | ⟨g, cap, cur, rfl, hb, r⟩
  · exact Or.inl h2
  · exact Or.inr ⟨g, cap, cur, rfl, by omega, r⟩
def Sl (w : World) (A : Option Addr) (xs : List Value) : Prop := ∀ (j : Nat) (u : Value), xs[j]? = some u → ∃ b o, A = some ⟨b, o, none⟩ ∧ b < w.heap.size ∧ w.cell? ⟨b, o + j, none⟩ = some u
theorem Sl.nil (w : World) (A : Option Addr) : Sl w A [] := fun j u h => by simp at h
theorem Sl.off {S : List Nat} {w w' : World} {A : Option Addr} {xs : List Value} (h : Sl w A xs) (ho : Off S w w') (hn : ∀ a, A = some a → a.block ∉ S) : Sl w' A xs := by
  intro j u hu
  obtain ⟨b, o, rfl, hb, hc⟩ := h j u hu
  exact ⟨b, o, rfl, Nat.lt_of_lt_of_le hb ho.size, (ho.cell (p := ⟨b, o + j, none⟩) hb (hn ⟨b, o, none⟩ rfl)).trans hc⟩
theorem Sl.below {w w' : World} {A : Option Addr} {xs : List Value} (h : Sl w A xs) (ho : Below w.heap.size w w') : Sl w' A xs := by
  intro j u hu
  obtain ⟨b, o, rfl, hb, hc⟩ := h j u hu
  exact ⟨b, o, rfl, Nat.lt_of_lt_of_le hb ho.size, (ho.cell (p := ⟨b, o + j, none⟩) hb).trans hc⟩
theorem Sl.drewN {w : World} {A : Option Addr} {xs : List Value} (h : Sl w A xs) (n : Nat) : Sl (w.drewN n) A xs := h
theorem Sl.of_own {w : World} {base : Nat} {e : TypeId} {n n' c : Nat} {A : Option Addr} {xs : List Value} (h : w.ownsRow base e 1 (.slice A n' c) n xs) : Sl w A xs := by
  intro j u hu
  have hj : j < xs.length := (List.getElem?_eq_some_iff.1 hu).1
  have hl := h.1
  obtain ⟨g, cap, hv, _, hlt⟩ := h.form (by omega)
  injection hv with hA
  subst hA
  refine ⟨g, 0, rfl, hlt, ?_⟩
  have h1 := h.cells (g := g) rfl j u hu
  have e : (⟨g, 0, none⟩ : Addr).add j = ⟨g, 0 + j, none⟩ := by
    unfold Addr.add
    by_cases h0 : j = 0 <;> simp [h0]
  rw [e] at h1
  exact h1
theorem own_slice {w : World} {base : Nat} {e : TypeId} {n : Nat} {v : Value} {xs : List Value} (h : w.ownsRow base e 1 v n xs) :
    ∃ (A : Option Addr) (c : Nat), v = .slice A n c ∧ n ≤ c ∧ c ≤ maxLen ∧ n = xs.length ∧ Sl w A xs ∧ ∀ a, A = some a → base ≤ a.block ∧ v.ownBlock = some a.block := by
  have h0 := h
  obtain ⟨h1, h2⟩ := h
  rcases h2 with ⟨rfl, rfl⟩ | ⟨g, cap, cur, rfl, hb, hh, hc, hm, r⟩
  · exact ⟨none, 0, rfl, Nat.le_refl _, Nat.zero_le _, by omega, Sl.of_own h0, fun a ha => by cases ha⟩
  · exact ⟨some ⟨g, 0, none⟩, cap, rfl, hc, hm, by omega, Sl.of_own h0, fun a ha => by cases ha; exact ⟨hb, rfl⟩⟩
end Go.Proofs.YtjbcbnemdhbhbaaGreatDoor
namespace Go.Proofs.YtjbcbnemdhbhbaaGreatDoor
open Go.RowKit
section
variable {P : Program} (w : World)
theorem run_append_nil (base : Nat) (t ty e : TypeId) (i : TypeInfo) (size : Nat) (ht : P.underlying t = some (.slice e)) (hi : P.info? e = some i)
    (v : Value) (n : Nat) (xs : List Value) (hown : w.ownsRow base e size v n xs) (c : Nat) : (Builtin.append_ #[t, t] ty #[v, .slice none 0 c]).run P w = .ok v w := by
  rcases hown.2 with ⟨rfl, rfl⟩ | ⟨g, cap, cur, rfl, _, _, hnc, _⟩
  · simp [Builtin.append_, run_underlying ht, sizeOf, typeInfo, hi, Builtin.lenOf, Builtin.firstCells]
  · simp [Builtin.append_, run_underlying ht, sizeOf, typeInfo, hi, Builtin.lenOf, Builtin.firstCells, hnc, storeCells]
theorem run_append_sl (base : Nat) (t ty e : TypeId) (i : TypeInfo) (z : Value) (bytes : Nat) (ht : P.underlying t = some (.slice e)) (hi : P.info? e = some i) (hz : i.zero = some z)
    (hsize : i.size = 1) (hby : i.bytes = bytes) (hzs : z.cells.size = 1)
    (v : Value) (n : Nat) (xs : List Value) (hown : w.ownsRow base e 1 v n xs)
    (A : Option Addr) (m c : Nat) (news : List Value) (hm : news.length = m) (hr : Sl w A news) (h1 : ∀ u ∈ news, u.oneCell' = true)
    (h63 : n + m ≤ maxLen) (hbytes : (n + m) * bytes ≤ 140737488355328) (hbase : base ≤ w.heap.size) :
    ∃ v' w', (Builtin.append_ #[t, t] ty #[v, .slice A m c]).run P w = .ok v' w' ∧ w'.ownsRow base e 1 v' (n + m) (xs ++ news) ∧ w.grownBy w' v.ownBlock ∧
      (v'.ownBlock = v.ownBlock ∨ v'.ownBlock = some w.heap.size) := by
  rcases A with _ | ad
  · have hn : news = [] := by
      cases news with
      | nil => rfl
      | cons u r => obtain ⟨b, o, h, _⟩ := hr 0 u rfl; cases h
    subst hn
    obtain rfl : m = 0 := by simpa using hm.symm
    exact ⟨v, w, run_append_nil w base t ty e i 1 ht hi v n xs hown c, by simpa using hown, World.grownBy.refl w _, .inl rfl⟩
  · have hcells : ∀ j u, news[j]? = some u → w.cell? (ad.add j) = some u := by
      intro j u hu
      obtain ⟨b, o, h, _, hc⟩ := hr j u hu
      injection h with h
      subst h
      have e2 : (⟨b, o, none⟩ : Addr).add j = ⟨b, o + j, none⟩ := by
        unfold Addr.add
        by_cases h0 : j = 0 <;> simp [h0]
      rw [e2]
      exact hc
    obtain ⟨v', w', hrun, h2, h3, _, h5⟩ := run_append_own_at (P := P) w base t ty e i z 1 bytes ht hi hz hsize hby hzs (by decide) v n xs hown ad m c news (by omega) hcells h1 h63 hbytes hbase
    exact ⟨v', w', hrun, h2, h3, h5⟩
theorem wpList_append_sl {ops : Array Oper} {rest : List Oper} {o : Oper} {a : Act} {Q : Exit → Act → World → Prop} (hgd : o.guard = none) (s x : Operand) (t : TypeId)
    (ho : o.op = .call { callee := .builtin .append, args := #[s, x], argTypes := #[t, t] })
    (base : Nat) (e : TypeId) (i : TypeInfo) (z : Value) (bytes : Nat) (ht : P.underlying t = some (.slice e)) (hi : P.info? e = some i) (hz : i.zero = some z)
    (hsize : i.size = 1) (hby : i.bytes = bytes) (hzs : z.cells.size = 1)
    (v : Value) (n : Nat) (xs : List Value) (hs : a.eval s = v) (hown : w.ownsRow base e 1 v n xs)
    (A : Option Addr) (m c : Nat) (news : List Value) (hm : news.length = m) (hx : a.eval x = .slice A m c) (hr : Sl w A news) (h1 : ∀ u ∈ news, u.oneCell' = true)
    (h63 : n + m ≤ maxLen) (hbytes : (n + m) * bytes ≤ 140737488355328) (hbase : base ≤ w.heap.size)
    (h : ∀ v' w', w'.ownsRow base e 1 v' (n + m) (xs ++ news) → w.grownBy w' v.ownBlock → (v'.ownBlock = v.ownBlock ∨ v'.ownBlock = some w.heap.size) → wpList P ops Q rest (a.put o.dst v') w') : wpList P ops Q (o :: rest) a w := by
  refine wpList_plain hgd fun K hK => ?_
  obtain ⟨v', w', hrun, h2, h3, h4⟩ := run_append_sl (P := P) w base t o.type e i z bytes ht hi hz hsize hby hzs v n xs hown A m c news hm hr h1 h63 hbytes hbase
  unfold Oper.wp execOp
  simp only [ho, resolve, invoke, builtin, Sem.run_bind, Sem.run_pure, Result.andThen_ok, List.map_toArray, List.map_cons, List.map_nil, hs, hx, hrun]
  exact hK _ _ (h v' w' h2 h3 h4)
end
end Go.Proofs.YtjbcbnemdhbhbaaGreatDoor
namespace Go.Proofs.YtjbcbnemdhbhbaaGreatDoor
open Go.RowKit
def OwnM (w : World) (base : Nat) (e : TypeId) (v : Value) (n : Nat) (xs : List Value) : Prop :=
  xs.length = n ∧ ((v = .slice none 0 0 ∧ n = 0) ∨
   ∃ g cap cur fz, v = .slice (some ⟨g, 0, none⟩) n cap ∧ base ≤ g ∧ w.heap[g]? = some (.cells cur e fz) ∧ (fz.2 = 0 ∨ cur.size ≤ fz.1) ∧ n ≤ cap ∧ cap ≤ maxLen ∧ cur.size = cap ∧ cur.toList.take n = xs)
section
variable {w : World} {base : Nat} {e : TypeId} {v : Value} {n : Nat} {xs : List Value}
theorem OwnM.of_own (h : w.ownsRow base e 1 v n xs) : OwnM w base e v n xs := by
  obtain ⟨h1, h2⟩ := h
  refine ⟨by omega, ?_⟩
  rcases h2 with h2 | ⟨g, cap, cur, hv, hb, hg, hc, hm, hs, ht⟩
  · exact .inl h2
  · exact .inr ⟨g, cap, cur, (0, 0), hv, hb, hg, .inl rfl, hc, hm, by omega, by rw [Nat.mul_one] at ht; exact ht⟩
theorem OwnM.lt (h : OwnM w base e v n xs) : ∀ k, v.ownBlock = some k → base ≤ k ∧ k < w.heap.size := by
  intro k hk
  rcases h.2 with ⟨rfl, _⟩ | ⟨g, cap, cur, fz, rfl, hb, hg, _⟩
  · simp [Value.ownBlock] at hk
  · simp [Value.ownBlock] at hk
    subst hk
    exact ⟨hb, (Array.getElem?_eq_some_iff.1 hg).1⟩
theorem OwnM.keep {w' : World} (h : OwnM w base e v n xs) (hk : ∀ k, v.ownBlock = some k → w'.heap[k]? = w.heap[k]?) : OwnM w' base e v n xs := by
  refine ⟨h.1, ?_⟩
  rcases h.2 with hn | ⟨g, cap, cur, fz, rfl, hb, hgg, rest⟩
  · exact .inl hn
  · exact .inr ⟨g, cap, cur, fz, rfl, hb, (hk g rfl).trans hgg, rest⟩
theorem OwnM.below {w' : World} (h : OwnM w base e v n xs) (hb : Below w.heap.size w w') : OwnM w' base e v n xs :=
  h.keep fun k hk => hb.block k (h.lt k hk).2
theorem OwnM.mono {base' : Nat} (h : OwnM w base e v n xs) (hb : base' ≤ base) : OwnM w base' e v n xs := by
  obtain ⟨h1, h2⟩ := h
  refine ⟨h1, ?_⟩
  rcases h2 with h2 | ⟨g, cap, cur, fz, rfl, hg, r⟩
  · exact .inl h2
  · exact .inr ⟨g, cap, cur, fz, rfl, by omega, r⟩
theorem OwnM.slice (h : OwnM w base e v n xs) : ∃ (A : Option Addr) (c : Nat), v = .slice A n c ∧ n ≤ c ∧ c ≤ maxLen ∧ n = xs.length ∧ Sl w A xs ∧ ∀ a, A = some a → base ≤ a.block ∧ v.ownBlock = some a.block := by
  obtain ⟨h1, h2⟩ := h
  rcases h2 with ⟨rfl, rfl⟩ | ⟨g, cap, cur, fz, rfl, hb, hh, hf, hc, hm, hs, ht⟩
  · obtain rfl : xs = [] := List.eq_nil_of_length_eq_zero h1
    exact ⟨none, 0, rfl, Nat.le_refl _, Nat.zero_le _, rfl, Sl.nil _ _, fun a ha => by cases ha⟩
  · refine ⟨some ⟨g, 0, none⟩, cap, rfl, hc, hm, h1.symm, ?_, fun a ha => by cases ha; exact ⟨hb, rfl⟩⟩
    intro j u hu
    refine ⟨g, 0, rfl, lt_of_block hh, ?_⟩
    rw [Nat.zero_add, cell_of_row w g j cur e fz hh]
    have hj : j < xs.length := (List.getElem?_eq_some_iff.1 hu).1
    rw [← ht, List.getElem?_take_of_lt (by omega)] at hu
    rw [← Array.getElem?_toList]
    exact hu
end
section
variable {P : Program} (w : World)
theorem OwnM.bytes (e : TypeId) (s : ByteArray) (hs : s.size ≤ maxLen) (fz : Nat) (hfz : (bytesRow s (grownCap w s.size 0 e)).size ≤ fz) :
    OwnM (w.drew.alloc (.cells (bytesRow s (grownCap w s.size 0 e)) e (fz, fz + 1))) w.heap.size e (.slice (some ⟨w.heap.size, 0, none⟩) s.size (grownCap w s.size 0 e)) s.size (s.data.toList.map fun c => .int .u8 c.toNat) := by
  have hge := grownCap_ge w s.size 0 e
  have hcm : grownCap w s.size 0 e ≤ maxLen := grownCap_le_maxLen w s.size 0 e hs
  refine ⟨by rw [List.length_map]; rfl, .inr ⟨w.heap.size, _, _, _, rfl, Nat.le_refl _, heap_alloc_new w.drew _, .inr hfz, hge, hcm, ?_, ?_⟩⟩
  · simp [bytesRow]
    have : s.size = s.data.size := rfl
    omega
  · simp [bytesRow]
end
end Go.Proofs.YtjbcbnemdhbhbaaGreatDoor
namespace Go.Proofs.YtjbcbnemdhbhbaaGreatDoor
open Go.RowKit
open Go.PlainAid
theorem nat_or_256 (n c : Nat) (hc : c < 256) : n * 256 ||| c = n * 256 + c := by
  have h := Nat.two_pow_add_eq_or_of_lt (i := 8) (b := c) (by simpa using hc) n
  have e : (2 : Nat) ^ 8 * n = n * 256 := by omega
  rw [e] at h
  exact h.symm
end Go.Proofs.YtjbcbnemdhbhbaaGreatDoor
namespace Go.Proofs.YtjbcbnemdhbhbaaGreatDoor
open Go.RowKit
open Go.PlainAid
set_option maxRecDepth 100000
def Holds (w : World) (e : Ending) (w' : World) : Prop := e = .returned (.bool true) ∧ Below w.heap.size w w'
def TellsQ (q : Bool) (w : World) (e : Ending) (w' : World) : Prop := e = .returned (.bool q) ∧ Below w.heap.size w w'
def TellsS (s : ByteArray) (w : World) (e : Ending) (w' : World) : Prop := e = .returned (.string s) ∧ Below w.heap.size w w'
theorem tellsQ_of {q q' : Bool} {w w' : World} (h : q = q') (hb : Below w.heap.size w w') : TellsQ q w (.returned (.bool q')) w' := by subst h; exact ⟨rfl, hb⟩
theorem tellsS_of {q q' : ByteArray} {w w' : World} (h : q = q') (hb : Below w.heap.size w w') : TellsS q w (.returned (.string q')) w' := by subst h; exact ⟨rfl, hb⟩
theorem bk_below {w w' : World} {g : Nat} {t : TypeId} {cs : Array Value} (h : Bk w g t cs) (hb : Below w.heap.size w w') : Bk w' g t cs := (hb.block g h.lt).trans h
theorem bcell {W w1 : World} (hb : Below W.heap.size W w1) : (∀ b o, b < W.heap.size → w1.cell? ⟨b, o, none⟩ = W.cell? ⟨b, o, none⟩) ∧ (∀ b o, b < W.heap.size → w1.frozen? ⟨b, o, none⟩ = W.frozen? ⟨b, o, none⟩) :=
  ⟨fun b o h => hb.cell (p := ⟨b, o, none⟩) h, fun b o h => hb.frozen (p := ⟨b, o, none⟩) h⟩
theorem Bk.four {w : World} {g : Nat} {t : TypeId} {c0 c1 c2 c3 : Value} (h : Bk w g t #[c0, c1, c2, c3]) :
    w.cell? ⟨g, 0, none⟩ = some c0 ∧ w.cell? ⟨g, 1, none⟩ = some c1 ∧ w.cell? ⟨g, 2, none⟩ = some c2 ∧ w.cell? ⟨g, 3, none⟩ = some c3 :=
  ⟨by simpa using h.cell 0, by simpa using h.cell 1, by simpa using h.cell 2, by simpa using h.cell 3⟩
theorem Bk.five {w : World} {g : Nat} {t : TypeId} {c0 c1 c2 c3 c4 : Value} (h : Bk w g t #[c0, c1, c2, c3, c4]) :
    w.cell? ⟨g, 0, none⟩ = some c0 ∧ w.cell? ⟨g, 1, none⟩ = some c1 ∧ w.cell? ⟨g, 2, none⟩ = some c2 ∧ w.cell? ⟨g, 3, none⟩ = some c3 ∧ w.cell? ⟨g, 4, none⟩ = some c4 :=
  ⟨by simpa using h.cell 0, by simpa using h.cell 1, by simpa using h.cell 2, by simpa using h.cell 3, by simpa using h.cell 4⟩
theorem str_of_list {r : ByteArray} {l : List UInt8} (h : r.data.toList = l) : r = ⟨l.toArray⟩ := by subst h; rfl
theorem str_eq {a b : ByteArray} (h : a.data.toList = b.data.toList) : a = b := by rw [str_of_list h]
theorem size_list (l : List UInt8) : (⟨l.toArray⟩ : ByteArray).size = l.length := by simp [ByteArray.size]
theorem len_size (s : ByteArray) : s.data.toList.length = s.size := rfl
theorem extract_list (s : ByteArray) (a b : Nat) : (s.extract a b).data.toList = (s.data.toList.drop a).take (b - a) := by
  rw [ByteArray.data_extract, Array.toList_extract, List.extract_eq_take_drop]
theorem append_list (a b : ByteArray) : (a ++ b).data.toList = a.data.toList ++ b.data.toList := by
  rw [ByteArray.data_append, Array.toList_append]
def u8s (l : List UInt8) : List Value := l.map fun c => .int .u8 c.toNat
theorem u8s_app (a b : List UInt8) : u8s (a ++ b) = u8s a ++ u8s b := by simp [u8s]
theorem add_zero_addr (g j : Nat) : (⟨g, 0, none⟩ : Addr).add j = ⟨g, j, none⟩ := by
  unfold Addr.add
  by_cases h0 : j = 0 <;> simp [h0]
theorem info_u8 : (Tryz.prog.info? 5).map (fun i => (i.zero, i.size, i.bytes)) = some (some (.int .u8 0), 1, 1) := by kernel_rfl
theorem conv_cells {W : World} {g o n cap : Nat} {L : List UInt8} (hn : n = L.length) (h : ∀ j (hj : j < L.length), W.cell? ⟨g, o + j, none⟩ = some (.int .u8 (L[j].toNat : Int))) :
    (convert 36 9 (.slice (some ⟨g, o, none⟩) n cap)).run Tryz.prog W = .ok (.string ⟨L.toArray⟩) W := by
  have h1 := run_convert_bytes_arg W 36 5 Tryz.underlying36 Tryz.underlying5 g o n cap (L.map fun c => (c.toNat : Int)) (by simp [hn]) (fun i hi => by
    rw [h i (by omega)]
    rw [List.getD_eq_getElem?_getD, List.getElem?_map, List.getElem?_eq_getElem (by omega)]
    rfl) 9 Tryz.underlying9
  rw [h1]
  have e : strOfNums (L.map fun c => (c.toNat : Int)) = ⟨L.toArray⟩ := by
    apply str_of_list
    rw [strOfNums_data, List.map_map]
    have : (fun n : Int => UInt8.ofNat n.toNat) ∘ (fun c : UInt8 => (c.toNat : Int)) = id := by
      funext c
      simp
    rw [this, List.map_id]
  rw [e]
theorem conv_own {W : World} {B g n cap : Nat} {L : List UInt8} (h : W.ownsRow B 5 1 (.slice (some ⟨g, 0, none⟩) n cap) L.length (u8s L)) :
    (convert 36 9 (.slice (some ⟨g, 0, none⟩) n cap)).run Tryz.prog W = .ok (.string ⟨L.toArray⟩) W := by
  have hn : n = L.length := by
    rcases h.2 with ⟨h0, _⟩ | ⟨g', cap', cur, h0, _⟩
    · cases h0
    · injection h0
  refine conv_cells hn fun j hj => ?_
  have h1 := h.cells (g := g) rfl j (.int .u8 (L[j].toNat : Int)) (by
    unfold u8s
    rw [List.getElem?_map, List.getElem?_eq_getElem hj]
    rfl)
  rw [add_zero_addr] at h1
  rw [Nat.zero_add]
  exact h1
theorem conv_row (W : World) (b0 : Nat) (A : Option Addr) (c : Nat) (l : List UInt8) (h : W.ownsRow b0 5 1 (.slice A l.length c) l.length (u8s l)) (h0 : 0 < l.length) :
    (convert 36 9 (.slice A l.length c)).run Tryz.prog W = .ok (.string ⟨l.toArray⟩) W := by
  obtain ⟨g, cap, hv, _, hlt⟩ := h.form (by simpa [u8s] using h0)
  simp only [Value.slice.injEq] at hv
  obtain ⟨hA, _, hc⟩ := hv
  subst hA
  subst hc
  exact conv_own h
set_option maxRecDepth 100000 in
theorem conv_bytes (b : ByteArray) (hb : b.size ≤ maxLen) (W : World) : ∃ (A : Option Addr) (cap : Nat) (W1 : World), (convert 9 36 (.string b)).run Tryz.prog W = .ok (.slice A b.size cap) W1 ∧ OwnM W1 W.heap.size 5 (.slice A b.size cap) b.size (u8s b.data.toList) ∧ Below W.heap.size W W1 := by
  refine ⟨_, _, _, run_bytes_of_string (P := Tryz.prog) W 9 36 5 b Tryz.underlying9 Tryz.underlying36 Tryz.underlying5, OwnM.bytes W 5 b hb _ (Nat.le_refl _), ?_⟩
  exact ((Below.refl _ _).drew).alloc (Nat.le_refl _) _
end Go.Proofs.YtjbcbnemdhbhbaaGreatDoor
namespace Go.Proofs.YtjbcbnemdhbhbaaGreatDoor
namespace Crc
def bit (r : Nat) : Nat := r / 2 ^^^ (if r % 2 = 1 then 3988292384 else 0)
def bit8 (r : Nat) : Nat := bit (bit (bit (bit (bit (bit (bit (bit r)))))))
def byt (r : Nat) (c : UInt8) : Nat := bit8 (r ^^^ c.toNat)
def reg (r : Nat) (l : List UInt8) : Nat := l.foldl byt r
def on (s : Nat) (l : List UInt8) : Nat := 4294967295 - reg (4294967295 - s) l
def sum (l : List UInt8) : Nat := on 0 l
def row : List Nat := [0x00000000, 0x1db71064, 0x3b6e20c8, 0x26d930ac, 0x76dc4190, 0x6b6b51f4, 0x4db26158, 0x5005713c, 0xedb88320, 0xf00f9344, 0xd6d6a3e8, 0xcb61b38c, 0x9b64c2b0, 0x86d3d2d4, 0xa00ae278, 0xbdbdf21c]
def nib (r : Nat) : Nat := r / 16 ^^^ row.getD (r % 16) 0
theorem half_xor (a b : Nat) : (a ^^^ b) / 2 = a / 2 ^^^ b / 2 := by
  have h := Nat.shiftRight_xor_distrib (a := a) (b := b) (i := 1)
  simpa [Nat.shiftRight_eq_div_pow] using h
theorem mod_xor (a b : Nat) : (a ^^^ b) % 2 = (a % 2 + b % 2) % 2 := by
  have h := Nat.xor_mod_two_pow (a := a) (b := b) (n := 1)
  simp at h
  rw [h]
  rcases Nat.mod_two_eq_zero_or_one a with ha | ha <;> rcases Nat.mod_two_eq_zero_or_one b with hb | hb <;> rw [ha, hb] <;> rfl
theorem xor4 (a b c d : Nat) : (a ^^^ b) ^^^ (c ^^^ d) = (a ^^^ c) ^^^ (b ^^^ d) := by
  rw [Nat.xor_assoc, ← Nat.xor_assoc b c d, Nat.xor_comm b c, Nat.xor_assoc c b d, ← Nat.xor_assoc]
theorem bit_xor (a b : Nat) : bit (a ^^^ b) = bit a ^^^ bit b := by
  unfold bit
  rw [half_xor, mod_xor, xor4]
  congr 1
  rcases Nat.mod_two_eq_zero_or_one a with ha | ha <;> rcases Nat.mod_two_eq_zero_or_one b with hb | hb <;> simp [ha, hb]
theorem bit_even (q : Nat) : bit (2 * q) = q := by
  unfold bit
  rw [if_neg (by omega), Nat.xor_zero]
  omega
theorem bit4_row : ∀ a : Fin 16, bit (bit (bit (bit a.val))) = row.getD a.val 0 := by decide
theorem split16 (r : Nat) : r = 2 * (2 * (2 * (2 * (r / 16)))) ^^^ r % 16 := by
  obtain ⟨x, hx⟩ : ∃ x, x = 2 * (2 * (2 * (2 * (r / 16)))) ^^^ r % 16 := ⟨_, rfl⟩
  rw [← hx]
  have m0 := mod_xor (2 * (2 * (2 * (2 * (r / 16))))) (r % 16)
  have h1 := half_xor (2 * (2 * (2 * (2 * (r / 16))))) (r % 16)
  rw [← hx] at m0 h1
  rw [Nat.mul_div_cancel_left _ (by decide : 0 < 2)] at h1
  have m1 := mod_xor (2 * (2 * (2 * (r / 16)))) (r % 16 / 2)
  have h2 := half_xor (2 * (2 * (2 * (r / 16)))) (r % 16 / 2)
  rw [← h1] at m1 h2
  rw [Nat.mul_div_cancel_left _ (by decide : 0 < 2)] at h2
  have m2 := mod_xor (2 * (2 * (r / 16))) (r % 16 / 2 / 2)
  have h3 := half_xor (2 * (2 * (r / 16))) (r % 16 / 2 / 2)
  rw [← h2] at m2 h3
  rw [Nat.mul_div_cancel_left _ (by decide : 0 < 2)] at h3
  have m3 := mod_xor (2 * (r / 16)) (r % 16 / 2 / 2 / 2)
  have h4 := half_xor (2 * (r / 16)) (r % 16 / 2 / 2 / 2)
  rw [← h3] at m3 h4
  rw [Nat.mul_div_cancel_left _ (by decide : 0 < 2)] at h4
  have z : r % 16 / 2 / 2 / 2 / 2 = 0 := by omega
  rw [z, Nat.xor_zero] at h4
  clear hx h1 h2 h3
  omega
theorem nib_bits (r : Nat) : nib r = bit (bit (bit (bit r))) := by
  conv => rhs; rw [split16 r]
  simp only [bit_xor, bit_even]
  unfold nib
  rw [← bit4_row ⟨r % 16, by omega⟩]
end Crc
end Go.Proofs.YtjbcbnemdhbhbaaGreatDoor
namespace Go.Proofs.YtjbcbnemdhbhbaaGreatDoor
open Go.RowKit
open Go.PlainAid
def RowAt (w : World) : Prop := ∀ k, k < 16 → w.cell? ⟨0, k, none⟩ = some (.int .u32 (Crc.row.getD k 0 : Nat))
def TellsU (n : Nat) (w : World) (e : Ending) (w' : World) : Prop := e = .returned (.int .u32 n) ∧ w = w'
theorem and15 (x : Nat) (h : x < 4294967296) : bits .and .u32 (x : Int) 15 = ((x % 16 : Nat) : Int) := by
  have := u32_and_nat x 15 h (by decide)
  rw [show x &&& 15 = x % 16 from Nat.and_two_pow_sub_one_eq_mod x 4] at this
  exact this
theorem row_lt (k : Nat) : Crc.row.getD k 0 < 4294967296 := by
  by_cases h : k < 16
  · exact (show ∀ k : Fin 16, Crc.row.getD k.val 0 < 4294967296 by decide) ⟨k, h⟩
  · rw [List.getD_eq_getElem?_getD, List.getElem?_eq_none (by simpa [Crc.row] using h)]
    decide
theorem nibXor (x : Nat) (h : x < 4294967296) : bits .xor .u32 ((x : Int) / 16) ((Crc.row.getD (x % 16) 0 : Nat) : Int) = ((Crc.nib x : Nat) : Int) := by
  have := u32_xor_nat (x / 16) (Crc.row.getD (x % 16) 0) (by omega) (row_lt _)
  exact this
theorem nib_lt (x : Nat) (h : x < 4294967296) : Crc.nib x < 4294967296 := Nat.xor_lt_two_pow (n := 32) (by omega) (row_lt _)
theorem not32 (n : Nat) (h : n < 4294967296) : bits .xor .u32 IntKind.u32.max (n : Int) = ((4294967295 - n : Nat) : Int) := by
  have h1 := u32_xor_nat 4294967295 n (by decide) h
  have h2 : 4294967295 ^^^ n = 4294967295 - n := by
    have h3 := BitVec.toNat_not (x := BitVec.ofNat 32 n)
    have h4 := BitVec.toNat_xor (x := BitVec.allOnes 32) (y := BitVec.ofNat 32 n)
    rw [BitVec.allOnes_xor] at h4
    have h5 : (BitVec.ofNat 32 n).toNat = n := by rw [BitVec.toNat_ofNat]; exact Nat.mod_eq_of_lt (by omega)
    have h6 : (BitVec.allOnes 32).toNat = 4294967295 := by decide
    rw [h5, h6] at h4
    rw [← h4, h3, h5]
  rw [h2] at h1
  exact h1
theorem byt_nib (r : Nat) (c : UInt8) : Crc.byt r c = Crc.nib (Crc.nib (r ^^^ c.toNat)) := by
  unfold Crc.byt Crc.bit8
  rw [Crc.nib_bits, Crc.nib_bits]
theorem reg_snoc (r : Nat) (l : List UInt8) (c : UInt8) : Crc.reg r (l ++ [c]) = Crc.byt (Crc.reg r l) c := by unfold Crc.reg; rw [List.foldl_append]; rfl
theorem take_snoc (s : ByteArray) (k : Nat) (h : k < s.size) : s.data.toList.take (k + 1) = s.data.toList.take k ++ [s[k]] := by
  rw [List.take_succ_eq_append_getElem (by simpa using h)]; rfl
set_option maxRecDepth 100000 in
set_option maxHeartbeats 1000000 in
theorem crcOn_any (s : ByteArray) (w : World) (hs : s.size ≤ maxLen) (hr : RowAt w) :
    Calls Tryz.prog 94 #[.int .u32 0, .string s] w (TellsU (Crc.sum s.data.toList) w) := by
  unfold maxLen at hs
  have HR := Lib.hid hr
  clear hr
  have e0 : bits .xor .u32 IntKind.u32.max 0 = ((4294967295 : Nat) : Int) := not32 0 (by decide)
  go_enter Tryz.func94, Tryz.ntmps94
  go_wp2_with fail
  clear e0
  go_loop [5, 11] (fun r i => ∃ (k n : Nat), i = .int .i64 k ∧ r = .int .u32 n ∧ k ≤ s.size ∧ Hid (n < 4294967296) ∧ Hid (n = Crc.reg 4294967295 (s.data.toList.take k))) (fun _ i => s.size - (intOf i).toNat)
  case atStart => exact ⟨0, _, rfl, rfl, Nat.zero_le _, show _ < _ by decide, show _ = _ by simp [Crc.reg]⟩
  case round =>
    obtain ⟨k, n, rfl, rfl, hk, HL, HN⟩ := hrel
    by_cases hlt : k < s.size
    · have hc := s[k].toNat_lt
      have e1 := u32_xor_nat n s[k].toNat HL.out (by omega)
      have HX := Lib.hid (show n ^^^ s[k].toNat < 4294967296 from Nat.xor_lt_two_pow (n := 32) HL.out (by omega))
      have HE := Lib.hid (show Crc.byt n s[k] = _ from byt_nib n s[k])
      have HT := Lib.hid (take_snoc s k hlt)
      generalize n ^^^ s[k].toNat = x at *
      have HM := Lib.hid (nib_lt x HX.out)
      have e2 := and15 x HX.out
      have e3 := nibXor x HX.out
      have hm : x % 16 < 16 := by omega
      have c1 := HR.out (x % 16) hm
      generalize x % 16 = m at *
      generalize Crc.row.getD m 0 = a at *
      generalize Crc.nib x = y at *
      have e4 := and15 y HM.out
      have e5 := nibXor y HM.out
      have HZ := Lib.hid (nib_lt y HM.out)
      have hm2 : y % 16 < 16 := by omega
      have c2 := HR.out (y % 16) hm2
      generalize y % 16 = m2 at *
      generalize Crc.row.getD m2 0 = a2 at *
      generalize Crc.nib y = z at *
      have e6 : ((s[k].toNat : Nat) : Int) % 4294967296 = s[k].toNat := by omega
      clear hc
      go_wp2_with fail
      go_round
      case rel => exact ⟨k + 1, z, by go_num, rfl, by omega, HZ.out, show _ = _ by rw [HT.out, reg_snoc, ← HN.out, HE.out]⟩
      case measure => simp [intOf]; omega
    · have e9 := not32 n HL.out
      have HE : Hid (n = Crc.reg 4294967295 s.data.toList) := by
        have := HN.out
        rw [List.take_of_length_le (by rw [len_size]; omega)] at this
        exact this
      go_wp2_with fail
      go_ret
      refine ⟨?_, rfl⟩
      rw [show Crc.sum s.data.toList = 4294967295 - n by unfold Crc.sum Crc.on; rw [HE.out]]
      rfl
theorem sum_any (s : ByteArray) (w : World) (hs : s.size ≤ maxLen) (hr : RowAt w) :
    Calls Tryz.prog 177 #[.string s] w (TellsU (Crc.sum s.data.toList) w) := by
  have H := Lib.hid (crcOn_any s w hs hr)
  clear hr
  go_enter Tryz.func177, Tryz.ntmps177
  go_wp2_with (go_at_call 94; refine H.out.mono ?_; rintro e w' ⟨rfl, rfl⟩)
  go_ret
  exact ⟨rfl, rfl⟩
end Go.Proofs.YtjbcbnemdhbhbaaGreatDoor
namespace Go.Proofs.YtjbcbnemdhbhbaaGreatDoor
structure Rw where
  A : Option Addr
  n : Nat
  c : Nat
def Rw.val (r : Rw) : Value := .slice r.A r.n r.c
def Rw.none : Rw := ⟨Option.none, 0, 0⟩
end Go.Proofs.YtjbcbnemdhbhbaaGreatDoor

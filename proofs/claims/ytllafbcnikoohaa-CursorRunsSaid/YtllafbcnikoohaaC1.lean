/- Merged by program: PlainBits Words Append Marked Kit PlainBe Field Take PlainMsg MsgGrow Cell. -/
import Derived.WalkKit
import Derived.PlainAid
import Derived.Deep.Draws
import Derived.Deep.AppendLies
import Derived.OneCell
import Derived.Laws.Rows
import Derived.Maps.AppendAt
import Derived.OwnWalk
import Derived.Lib.FrozenHead
import Derived.Laws.IdiomStrings
import Derived.Test.YtllafbcnikoohaaChecked
import Derived.WalkSpells
import Derived.WalkLawsBesides
import Derived.Deep.QuietTactic
import Derived.BigQuiet
import Derived.Lib.Hide
import Derived.Deep.LoopGhost
import Derived.Outline
import Derived.Laws.BytesArg
import Derived.Deep.DeepCutAuto
import Derived.Deep.RegionHeld3
import Derived.StillTailTactics
import Derived.Deep.RegionWith
import Derived.Deep.OwnRows
import Derived.Laws.BitsAllLaws
/- Plain facts on bits, bytes and strings, no program: small sums by or, a byte's top bit, a string's bytes as a list. -/
namespace Go.Proofs.Ytllafbcnikoohaa
open Go.RowKit
open Go.PlainAid

theorem wraps_i64 (n : Int) (h₀ : 0 ≤ n) (h₁ : n < 2 ^ 40) : IntKind.i64.wrap n = n := by rw [IntKind.wrap_i64]; omega
theorem wraps_u64 (n : Int) (h₀ : 0 ≤ n) (h₁ : n < 2 ^ 64) : IntKind.u64.wrap n = n := by rw [IntKind.wrap_u64]; omega

theorem nat_or_256 (n c : Nat) (hc : c < 256) : n * 256 ||| c = n * 256 + c := by
  have h := Nat.two_pow_add_eq_or_of_lt (i := 8) (b := c) (by simpa using hc) n
  have e : (2 : Nat) ^ 8 * n = n * 256 := by omega
  rw [e] at h
  exact h.symm

theorem i64_or_256 (n c : Int) (h0 : 0 ≤ n) (h1 : n < 16777216) (h2 : 0 ≤ c) (h3 : c ≤ 255) : bits BinOp.or IntKind.i64 (n * 256) c = n * 256 + c := by
  obtain ⟨a, rfl⟩ := Int.eq_ofNat_of_zero_le h0
  obtain ⟨b, rfl⟩ := Int.eq_ofNat_of_zero_le h2
  have h4 : a * 256 < 2 ^ 40 := by omega
  have h5 : b < 2 ^ 40 := by omega
  have h := (bits_nat .i64 40 (by decide) wraps_i64 (a * 256) b h4 h5).2
  rw [nat_or_256 a b (by omega)] at h
  have e : ((a * 256 : Nat) : Int) = (a : Int) * 256 := by omega
  rw [Int.natCast_add, e] at h
  exact h

theorem u8_top (c : Int) (h1 : 128 ≤ c) (h2 : c ≤ 255) : bits BinOp.andNot IntKind.u8 c 128 = c - 128 := by
  obtain ⟨a, rfl⟩ := Int.eq_ofNat_of_zero_le (show 0 ≤ c by omega)
  have h := u8_andNot_nat a 128 (by omega) (by omega)
  have e : a &&& 127 = a % 128 := Nat.and_two_pow_sub_one_eq_mod a 7
  rw [show 255 - 128 = 127 from rfl, e] at h
  exact h.trans (by omega)

theorem nonempty {s : ByteArray} (h : 0 < s.size) : s.toList.isEmpty = false := by
  rw [ByteArray.toList_eq]
  cases hl : s.data.toList with
  | nil => exfalso; have : s.data.toList.length = s.size := rfl; rw [hl] at this; simp at this; omega
  | cons _ _ => rfl

/-- Byte k of a string as its list has it. -/
theorem bt_list (s : ByteArray) (k : Nat) : bt s k = ((s.data.toList.getD k 0).toNat : Int) := by
  unfold bt
  split
  · rename_i h
    have h' : k < s.data.toList.length := by simpa using h
    rw [List.getD_eq_getElem?_getD, List.getElem?_eq_getElem h']
    rfl
  · rename_i h
    rw [List.getD_eq_getElem?_getD, List.getElem?_eq_none (by simpa using h)]
    rfl

end Go.Proofs.Ytllafbcnikoohaa
/- Words for memory, over any program: a block known whole, worlds that differ in named blocks alone, slices that read as lists. -/
namespace Go.Proofs.Ytllafbcnikoohaa
open Go.RowKit

/-- Block g is just these cells of type t, none of them frozen. -/
def Bk (w : World) (g : Nat) (t : TypeId) (cs : Array Value) : Prop := w.heap[g]? = some (.cells cs t (0, 0))

theorem Bk.lt {w : World} {g : Nat} {t : TypeId} {cs : Array Value} (h : Bk w g t cs) : g < w.heap.size := lt_of_block h
theorem Bk.cell {w : World} {g : Nat} {t : TypeId} {cs : Array Value} (h : Bk w g t cs) (i : Nat) : w.cell? ⟨g, i, none⟩ = cs[i]? := cell_of_row w g i cs t (0, 0) h
theorem Bk.frozen {w : World} {g : Nat} {t : TypeId} {cs : Array Value} (h : Bk w g t cs) (i : Nat) : w.frozen? ⟨g, i, none⟩ = false := by
  unfold Bk at h
  simp [World.frozen?, h]
theorem Bk.drewN {w : World} {g : Nat} {t : TypeId} {cs : Array Value} (h : Bk w g t cs) (n : Nat) : Bk (w.drewN n) g t cs := h
theorem Bk.drew {w : World} {g : Nat} {t : TypeId} {cs : Array Value} (h : Bk w g t cs) : Bk w.drew g t cs := h
theorem Bk.alloc {w : World} {g : Nat} {t : TypeId} {cs : Array Value} (h : Bk w g t cs) (o : Obj) : Bk (w.alloc o) g t cs := (Below.heap_alloc w o g h.lt).trans h
theorem Bk.new (w : World) (t : TypeId) (cs : Array Value) : Bk (w.alloc (.cells cs t)) w.heap.size t cs := heap_alloc_new w _
theorem Bk.put {w : World} {g : Nat} {t : TypeId} {cs : Array Value} (h : Bk w g t cs) (i : Nat) (u : Value) : Bk (w.setCell ⟨g, i, none⟩ u) g t (cs.setIfInBounds i u) := by
  unfold Bk at h ⊢
  simp [World.setCell, Array.getElem?_modify, h]
theorem Bk.far {w : World} {g : Nat} {t : TypeId} {cs : Array Value} (h : Bk w g t cs) {p : Addr} (hp : g ≠ p.block) (u : Value) : Bk (w.setCell p u) g t cs := (Below.heap_setCell w p u g hp).trans h
/-- Blocks of two element types are two. -/
theorem Bk.ne {w : World} {g g' : Nat} {t t' : TypeId} {cs cs' : Array Value} (h : Bk w g t cs) (h' : Bk w g' t' cs') (hne : t ≠ t') : g ≠ g' := by
  rintro rfl
  unfold Bk at h h'
  rw [h] at h'
  injection h' with h'
  injection h' with _ ht
  exact hne ht
theorem own_ne {w : World} {g base : Nat} {t e : TypeId} {size n : Nat} {v : Value} {xs : List Value} {cs : Array Value} (h : w.ownsRow base e size v n xs) (hg : Bk w g t cs) (hne : e ≠ t) : v.ownBlock ≠ some g := by
  rcases h.2 with ⟨rfl, _⟩ | ⟨g', cap, cur, rfl, _, hh, _⟩
  · simp [Value.ownBlock]
  · intro he
    obtain rfl : g' = g := by simpa [Value.ownBlock] using he
    exact Bk.ne (t := e) hh hg hne rfl

/-- Of the blocks that were there only those of S may have turned; the streams are as they were. -/
structure Off (S : List Nat) (w w' : World) : Prop where
  os : w'.os = w.os
  tape : w'.tape = w.tape
  output : w'.output = w.output
  size : w.heap.size ≤ w'.heap.size
  block : ∀ k, k < w.heap.size → k ∉ S → w'.heap[k]? = w.heap[k]?

theorem Off.refl (S : List Nat) (w : World) : Off S w w := ⟨rfl, rfl, rfl, Nat.le_refl _, fun _ _ _ => rfl⟩
theorem Off.trans {S : List Nat} {a b c : World} (h : Off S a b) (k : Off S b c) : Off S a c :=
  ⟨k.os.trans h.os, k.tape.trans h.tape, k.output.trans h.output, Nat.le_trans h.size k.size, fun i hi hn => (k.block i (Nat.lt_of_lt_of_le hi h.size) hn).trans (h.block i hi hn)⟩
/-- A second step may turn blocks that are new, besides. -/
theorem Off.then {S T : List Nat} {a b c : World} (h : Off S a b) (k : Off T b c) (hT : ∀ g ∈ T, g ∈ S ∨ a.heap.size ≤ g) : Off S a c :=
  ⟨k.os.trans h.os, k.tape.trans h.tape, k.output.trans h.output, Nat.le_trans h.size k.size, fun i hi hn =>
    (k.block i (Nat.lt_of_lt_of_le hi h.size) (fun ht => (hT i ht).elim hn (fun h1 => absurd hi (by omega)))).trans (h.block i hi hn)⟩
theorem Off.mono {S T : List Nat} {a b : World} (h : Off S a b) (hT : ∀ g ∈ S, g ∈ T ∨ a.heap.size ≤ g) : Off T a b :=
  ⟨h.os, h.tape, h.output, h.size, fun i hi hn => h.block i hi (fun ht => (hT i ht).elim hn (fun h1 => absurd hi (by omega)))⟩
theorem Off.drew {S : List Nat} {a w : World} (h : Off S a w) : Off S a w.drew := ⟨h.os, h.tape, h.output, h.size, h.block⟩
theorem Off.drewN {S : List Nat} {a w : World} (h : Off S a w) (n : Nat) : Off S a (w.drewN n) := ⟨h.os, h.tape, h.output, h.size, h.block⟩
theorem Off.alloc {S : List Nat} {a w : World} (h : Off S a w) (o : Obj) : Off S a (w.alloc o) :=
  ⟨h.os, h.tape, h.output, Nat.le_trans h.size (by simp), fun i hi hn => (Below.heap_alloc w o i (Nat.lt_of_lt_of_le hi h.size)).trans (h.block i hi hn)⟩
theorem Off.setCell {S : List Nat} {a w : World} (h : Off S a w) {p : Addr} (hp : p.block ∈ S ∨ a.heap.size ≤ p.block) (u : Value) : Off S a (w.setCell p u) :=
  ⟨h.os, h.tape, h.output, by simpa [World.setCell] using h.size, fun i hi hn => (Below.heap_setCell w p u i (by
    rintro rfl
    rcases hp with hp | hp
    · exact hn hp
    · omega)).trans (h.block i hi hn)⟩
theorem Off.grown {S : List Nat} {a w w' : World} {row : Option Nat} (h : Off S a w) (hg : w.grownBy w' row) (hr : ∀ g, row = some g → g ∈ S ∨ a.heap.size ≤ g) : Off S a w' :=
  ⟨hg.os.trans h.os, hg.tape.trans h.tape, hg.output.trans h.output, Nat.le_trans h.size hg.size, fun i hi hn =>
    (hg.block i (Nat.lt_of_lt_of_le hi h.size) (fun e => (hr i e.symm).elim hn (fun h1 => absurd hi (by omega)))).trans (h.block i hi hn)⟩
theorem Off.of_below {w w' : World} (h : Below w.heap.size w w') (S : List Nat) : Off S w w' := ⟨h.os, h.tape, h.output, h.size, fun i hi _ => h.block i hi⟩
/-- Where all of S is new, what was there below B is as it was. -/
theorem Off.below {S : List Nat} {w w' : World} (h : Off S w w') {B : Nat} (hB : B ≤ w.heap.size) (hS : ∀ g ∈ S, B ≤ g) : Below B w w' :=
  ⟨h.os, h.tape, h.output, h.size, fun i hi => h.block i (by omega) (fun hs => by have := hS i hs; omega)⟩
theorem Off.bk {S : List Nat} {w w' : World} (h : Off S w w') {g : Nat} {t : TypeId} {cs : Array Value} (hb : Bk w g t cs) (hg : g ∉ S) : Bk w' g t cs := (h.block g hb.lt hg).trans hb
theorem Off.cell {S : List Nat} {w w' : World} (h : Off S w w') {p : Addr} (hp : p.block < w.heap.size) (hn : p.block ∉ S) : w'.cell? p = w.cell? p := World.cell?_of_block (h.block p.block hp hn)
theorem Off.own {S : List Nat} {w w' : World} (h : Off S w w') {base : Nat} {e : TypeId} {size n : Nat} {v : Value} {xs : List Value} (ho : w.ownsRow base e size v n xs) (hn : ∀ g, v.ownBlock = some g → g ∉ S) : w'.ownsRow base e size v n xs := by
  obtain ⟨h1, h2⟩ := ho
  refine ⟨h1, ?_⟩
  rcases h2 with h2 | ⟨g, cap, cur, rfl, hb, hh, r⟩
  · exact Or.inl h2
  · exact Or.inr ⟨g, cap, cur, rfl, hb, (h.block g (lt_of_block hh) (hn g rfl)).trans hh, r⟩

theorem own_mono {w : World} {base base' : Nat} {e : TypeId} {size n : Nat} {v : Value} {xs : List Value} (ho : w.ownsRow base e size v n xs) (h : base' ≤ base) : w.ownsRow base' e size v n xs := by
  obtain ⟨h1, h2⟩ := ho
  refine ⟨h1, ?_⟩
  rcases h2 with h2 | ⟨g, cap, cur, rfl, hb, r⟩
  · exact Or.inl h2
  · exact Or.inr ⟨g, cap, cur, rfl, by omega, r⟩

/-- A slice that begins at A holds these cells (each element one cell). -/
def Sl (w : World) (A : Option Addr) (xs : List Value) : Prop := ∀ (j : Nat) (u : Value), xs[j]? = some u → ∃ b o, A = some ⟨b, o, none⟩ ∧ b < w.heap.size ∧ w.cell? ⟨b, o + j, none⟩ = some u

theorem Sl.nil (w : World) (A : Option Addr) : Sl w A [] := fun j u h => by simp at h
theorem Sl.off {S : List Nat} {w w' : World} {A : Option Addr} {xs : List Value} (h : Sl w A xs) (ho : Off S w w') (hn : ∀ a, A = some a → a.block ∉ S) : Sl w' A xs := by
  intro j u hu
  obtain ⟨b, o, rfl, hb, hc⟩ := h j u hu
  exact ⟨b, o, rfl, Nat.lt_of_lt_of_le hb ho.size, (ho.cell (p := ⟨b, o + j, none⟩) hb (hn ⟨b, o, none⟩ rfl)).trans hc⟩
theorem Sl.below {w w' : World} {A : Option Addr} {xs : List Value} (h : Sl w A xs) (ho : Below w.heap.size w w') : Sl w' A xs := by
  intro j u hu
  obtain ⟨b, o, rfl, hb, hc⟩ := h j u hu
  exact ⟨b, o, rfl, Nat.lt_of_lt_of_le hb ho.size, (ho.cell (p := ⟨b, o + j, none⟩) hb).trans hc⟩
theorem Sl.drewN {w : World} {A : Option Addr} {xs : List Value} (h : Sl w A xs) (n : Nat) : Sl (w.drewN n) A xs := h
theorem Sl.of_own {w : World} {base : Nat} {e : TypeId} {n n' c : Nat} {A : Option Addr} {xs : List Value} (h : w.ownsRow base e 1 (.slice A n' c) n xs) : Sl w A xs := by
  intro j u hu
  have hj : j < xs.length := (List.getElem?_eq_some_iff.1 hu).1
  have hl := h.1
  obtain ⟨g, cap, hv, _, hlt⟩ := h.form (by omega)
  injection hv with hA
  subst hA
  refine ⟨g, 0, rfl, hlt, ?_⟩
  have h1 := h.cells (g := g) rfl j u hu
  have e : (⟨g, 0, none⟩ : Addr).add j = ⟨g, 0 + j, none⟩ := by
    unfold Addr.add
    by_cases h0 : j = 0 <;> simp [h0]
  rw [e] at h1
  exact h1

/-- A row of the call's own as a slice's parts. -/
theorem own_slice {w : World} {base : Nat} {e : TypeId} {n : Nat} {v : Value} {xs : List Value} (h : w.ownsRow base e 1 v n xs) :
    ∃ (A : Option Addr) (c : Nat), v = .slice A n c ∧ n ≤ c ∧ c ≤ maxLen ∧ n = xs.length ∧ Sl w A xs ∧ ∀ a, A = some a → base ≤ a.block ∧ v.ownBlock = some a.block := by
  have h0 := h
  obtain ⟨h1, h2⟩ := h
  rcases h2 with ⟨rfl, rfl⟩ | ⟨g, cap, cur, rfl, hb, hh, hc, hm, r⟩
  · exact ⟨none, 0, rfl, Nat.le_refl _, Nat.zero_le _, by omega, Sl.of_own h0, fun a ha => by cases ha⟩
  · exact ⟨some ⟨g, 0, none⟩, cap, rfl, hc, hm, by omega, Sl.of_own h0, fun a ha => by cases ha; exact ⟨hb, rfl⟩⟩

end Go.Proofs.Ytllafbcnikoohaa
/- append(own row, xs...): the source nil, empty or not, told by Sl. Over any program. After the kit's word on such appends (howto, extra words), turned to Sl. -/
namespace Go.Proofs.Ytllafbcnikoohaa
open Go.RowKit

section
variable {P : Program} (w : World)

theorem run_append_nil (base : Nat) (t ty e : TypeId) (i : TypeInfo) (size : Nat) (ht : P.underlying t = some (.slice e)) (hi : P.info? e = some i)
    (v : Value) (n : Nat) (xs : List Value) (hown : w.ownsRow base e size v n xs) (c : Nat) : (Builtin.append_ #[t, t] ty #[v, .slice none 0 c]).run P w = .ok v w := by
  rcases hown.2 with ⟨rfl, rfl⟩ | ⟨g, cap, cur, rfl, _, _, hnc, _⟩
  · simp [Builtin.append_, run_underlying ht, sizeOf, typeInfo, hi, Builtin.lenOf, Builtin.firstCells]
  · simp [Builtin.append_, run_underlying ht, sizeOf, typeInfo, hi, Builtin.lenOf, Builtin.firstCells, hnc, storeCells]

theorem run_append_sl (base : Nat) (t ty e : TypeId) (i : TypeInfo) (z : Value) (bytes : Nat) (ht : P.underlying t = some (.slice e)) (hi : P.info? e = some i) (hz : i.zero = some z)
    (hsize : i.size = 1) (hby : i.bytes = bytes) (hzs : z.cells.size = 1)
    (v : Value) (n : Nat) (xs : List Value) (hown : w.ownsRow base e 1 v n xs)
    (A : Option Addr) (m c : Nat) (news : List Value) (hm : news.length = m) (hr : Sl w A news) (h1 : ∀ u ∈ news, u.oneCell' = true)
    (h63 : n + m ≤ maxLen) (hbytes : (n + m) * bytes ≤ 140737488355328) (hbase : base ≤ w.heap.size) :
    ∃ v' w', (Builtin.append_ #[t, t] ty #[v, .slice A m c]).run P w = .ok v' w' ∧ w'.ownsRow base e 1 v' (n + m) (xs ++ news) ∧ w.grownBy w' v.ownBlock ∧
      (v'.ownBlock = v.ownBlock ∨ v'.ownBlock = some w.heap.size) := by
  rcases A with _ | ad
  · have hn : news = [] := by
      cases news with
      | nil => rfl
      | cons u r => obtain ⟨b, o, h, _⟩ := hr 0 u rfl; cases h
    subst hn
    obtain rfl : m = 0 := by simpa using hm.symm
    exact ⟨v, w, run_append_nil w base t ty e i 1 ht hi v n xs hown c, by simpa using hown, World.grownBy.refl w _, .inl rfl⟩
  · have hcells : ∀ j u, news[j]? = some u → w.cell? (ad.add j) = some u := by
      intro j u hu
      obtain ⟨b, o, h, _, hc⟩ := hr j u hu
      injection h with h
      subst h
      have e2 : (⟨b, o, none⟩ : Addr).add j = ⟨b, o + j, none⟩ := by
        unfold Addr.add
        by_cases h0 : j = 0 <;> simp [h0]
      rw [e2]
      exact hc
    obtain ⟨v', w', hrun, h2, h3, _, h5⟩ := run_append_own_at (P := P) w base t ty e i z 1 bytes ht hi hz hsize hby hzs (by decide) v n xs hown ad m c news (by omega) hcells h1 h63 hbytes hbase
    exact ⟨v', w', hrun, h2, h3, h5⟩

theorem wpList_append_sl {ops : Array Oper} {rest : List Oper} {o : Oper} {a : Act} {Q : Exit → Act → World → Prop} (hgd : o.guard = none) (s x : Operand) (t : TypeId)
    (ho : o.op = .call { callee := .builtin .append, args := #[s, x], argTypes := #[t, t] })
    (base : Nat) (e : TypeId) (i : TypeInfo) (z : Value) (bytes : Nat) (ht : P.underlying t = some (.slice e)) (hi : P.info? e = some i) (hz : i.zero = some z)
    (hsize : i.size = 1) (hby : i.bytes = bytes) (hzs : z.cells.size = 1)
    (v : Value) (n : Nat) (xs : List Value) (hs : a.eval s = v) (hown : w.ownsRow base e 1 v n xs)
    (A : Option Addr) (m c : Nat) (news : List Value) (hm : news.length = m) (hx : a.eval x = .slice A m c) (hr : Sl w A news) (h1 : ∀ u ∈ news, u.oneCell' = true)
    (h63 : n + m ≤ maxLen) (hbytes : (n + m) * bytes ≤ 140737488355328) (hbase : base ≤ w.heap.size)
    (h : ∀ v' w', w'.ownsRow base e 1 v' (n + m) (xs ++ news) → w.grownBy w' v.ownBlock → (v'.ownBlock = v.ownBlock ∨ v'.ownBlock = some w.heap.size) → wpList P ops Q rest (a.put o.dst v') w') : wpList P ops Q (o :: rest) a w := by
  refine wpList_plain hgd fun K hK => ?_
  obtain ⟨v', w', hrun, h2, h3, h4⟩ := run_append_sl (P := P) w base t o.type e i z bytes ht hi hz hsize hby hzs v n xs hown A m c news hm hr h1 h63 hbytes hbase
  unfold Oper.wp execOp
  simp only [ho, resolve, invoke, builtin, Sem.run_bind, Sem.run_pure, Result.andThen_ok, List.map_toArray, List.map_cons, List.map_nil, hs, hx, hrun]
  exact hK _ _ (h v' w' h2 h3 h4)
end

theorem strings_one (l : List ByteArray) : ∀ u ∈ l.map Value.string, u.oneCell' = true := by
  intro u hu
  obtain ⟨x, _, rfl⟩ := List.mem_map.1 hu
  rfl

end Go.Proofs.Ytllafbcnikoohaa
/- Rows of one-cell elements that a call owns, of which the place behind the last cell may be marked (as a conversion from a string leaves them), and append onto them. Over any program. After the shelf's text on rows with a frozen head. -/
namespace Go.Proofs.Ytllafbcnikoohaa
open Go.RowKit

/-- v owns the cells xs; its row's frozen stretch, if any, lies behind its cells. -/
def OwnM (w : World) (base : Nat) (e : TypeId) (v : Value) (n : Nat) (xs : List Value) : Prop :=
  xs.length = n ∧ ((v = .slice none 0 0 ∧ n = 0) ∨
   ∃ g cap cur fz, v = .slice (some ⟨g, 0, none⟩) n cap ∧ base ≤ g ∧ w.heap[g]? = some (.cells cur e fz) ∧ (fz.2 = 0 ∨ cur.size ≤ fz.1) ∧ n ≤ cap ∧ cap ≤ maxLen ∧ cur.size = cap ∧ cur.toList.take n = xs)

section
variable {w : World} {base : Nat} {e : TypeId} {v : Value} {n : Nat} {xs : List Value}

theorem OwnM.of_own (h : w.ownsRow base e 1 v n xs) : OwnM w base e v n xs := by
  obtain ⟨h1, h2⟩ := h
  refine ⟨by omega, ?_⟩
  rcases h2 with h2 | ⟨g, cap, cur, hv, hb, hg, hc, hm, hs, ht⟩
  · exact .inl h2
  · exact .inr ⟨g, cap, cur, (0, 0), hv, hb, hg, .inl rfl, hc, hm, by omega, by rw [Nat.mul_one] at ht; exact ht⟩

theorem OwnM.lt (h : OwnM w base e v n xs) : ∀ k, v.ownBlock = some k → base ≤ k ∧ k < w.heap.size := by
  intro k hk
  rcases h.2 with ⟨rfl, _⟩ | ⟨g, cap, cur, fz, rfl, hb, hg, _⟩
  · simp [Value.ownBlock] at hk
  · simp [Value.ownBlock] at hk
    subst hk
    exact ⟨hb, (Array.getElem?_eq_some_iff.1 hg).1⟩

theorem OwnM.keep {w' : World} (h : OwnM w base e v n xs) (hk : ∀ k, v.ownBlock = some k → w'.heap[k]? = w.heap[k]?) : OwnM w' base e v n xs := by
  refine ⟨h.1, ?_⟩
  rcases h.2 with hn | ⟨g, cap, cur, fz, rfl, hb, hgg, rest⟩
  · exact .inl hn
  · exact .inr ⟨g, cap, cur, fz, rfl, hb, (hk g rfl).trans hgg, rest⟩

theorem OwnM.below {w' : World} (h : OwnM w base e v n xs) (hb : Below w.heap.size w w') : OwnM w' base e v n xs :=
  h.keep fun k hk => hb.block k (h.lt k hk).2

theorem OwnM.mono {base' : Nat} (h : OwnM w base e v n xs) (hb : base' ≤ base) : OwnM w base' e v n xs := by
  obtain ⟨h1, h2⟩ := h
  refine ⟨h1, ?_⟩
  rcases h2 with h2 | ⟨g, cap, cur, fz, rfl, hg, r⟩
  · exact .inl h2
  · exact .inr ⟨g, cap, cur, fz, rfl, by omega, r⟩

/-- As a slice's parts. -/
theorem OwnM.slice (h : OwnM w base e v n xs) : ∃ (A : Option Addr) (c : Nat), v = .slice A n c ∧ n ≤ c ∧ c ≤ maxLen ∧ n = xs.length ∧ Sl w A xs ∧ ∀ a, A = some a → base ≤ a.block ∧ v.ownBlock = some a.block := by
  obtain ⟨h1, h2⟩ := h
  rcases h2 with ⟨rfl, rfl⟩ | ⟨g, cap, cur, fz, rfl, hb, hh, hf, hc, hm, hs, ht⟩
  · obtain rfl : xs = [] := List.eq_nil_of_length_eq_zero h1
    exact ⟨none, 0, rfl, Nat.le_refl _, Nat.zero_le _, rfl, Sl.nil _ _, fun a ha => by cases ha⟩
  · refine ⟨some ⟨g, 0, none⟩, cap, rfl, hc, hm, h1.symm, ?_, fun a ha => by cases ha; exact ⟨hb, rfl⟩⟩
    intro j u hu
    refine ⟨g, 0, rfl, lt_of_block hh, ?_⟩
    rw [Nat.zero_add, cell_of_row w g j cur e fz hh]
    have hj : j < xs.length := (List.getElem?_eq_some_iff.1 hu).1
    rw [← ht, List.getElem?_take_of_lt (by omega)] at hu
    rw [← Array.getElem?_toList]
    exact hu
end

theorem run_storeCells_atM (P : Program) (g o : Nat) (t : TypeId) (fz : Nat × Nat) : ∀ (vs : List Value) (i : Nat) (cur : Array Value) (w : World), w.heap[g]? = some (.cells cur t fz) → (fz.2 = 0 ∨ cur.size ≤ fz.1) → o + i + vs.length ≤ cur.size → (∀ v ∈ vs, v.oneCell' = true) →
    (storeCells ⟨g, o, none⟩ vs i).run P w = .ok () (w.setRow g (cur.toList.take (o + i) ++ vs ++ cur.toList.drop (o + i + vs.length)).toArray)
  | [], i, cur, w, hg, _, _, _ => by
    simp only [storeCells, List.append_nil, List.length_nil, Nat.add_zero, List.take_append_drop, Array.toArray_toList]
    rw [setRow_self w g cur t fz hg]
    rfl
  | v :: rest, i, cur, w, hg, hfz, hl, h1 => by
    have hi : o + i < cur.size := by simp at hl; omega
    have hadd : (⟨g, o, none⟩ : Addr).add i = ⟨g, o + i, none⟩ := by unfold Addr.add; split <;> simp_all
    have hcell : w.cell? ⟨g, o + i, none⟩ = some cur[o + i] := by simp [World.cell?, hg, hi]
    have hfro : w.frozen? ⟨g, o + i, none⟩ = false := by
      obtain ⟨lo, hi'⟩ := fz
      simp only [World.frozen?, hg, Bool.and_eq_false_iff, decide_eq_false_iff_not]
      simp only at hfz
      omega
    have hst : (store ((⟨g, o, none⟩ : Addr).add i) v).run P w = .ok () (w.setRow g (cur.setIfInBounds (o + i) v)) := by
      rw [hadd, run_store P w _ v _ (h1 v (by simp)), hcell]
      simp [hfro, setCell_eq_setRow w g (o + i) cur t fz v hg]
    have ih := run_storeCells_atM P g o t fz rest (i + 1) (cur.setIfInBounds (o + i) v) (w.setRow g (cur.setIfInBounds (o + i) v)) (setRow_heap w g cur _ t _ hg) (by simpa using hfz) (by simp at hl ⊢; omega) (fun x hx => h1 x (by simp [hx]))
    simp only [storeCells, Sem.run_bind, hst, Result.andThen_ok, ih, setRow_setRow]
    congr 3
    have e := list_seg_step cur.toList (o + i) v rest (by simp at hl ⊢; omega)
    simpa [Array.toList_setIfInBounds, Nat.add_assoc] using e

section
variable {P : Program} (w : World)

theorem run_append_M (base : Nat) (t ty e : TypeId) (i : TypeInfo) (z : Value) (bytes : Nat) (ht : P.underlying t = some (.slice e)) (hi : P.info? e = some i) (hz : i.zero = some z)
    (hsize : i.size = 1) (hby : i.bytes = bytes) (hzs : z.cells.size = 1)
    (v : Value) (n : Nat) (xs : List Value) (hown : OwnM w base e v n xs)
    (A : Option Addr) (m c : Nat) (news : List Value) (hm : news.length = m) (hr : Sl w A news) (h1 : ∀ u ∈ news, u.oneCell' = true)
    (h63 : n + m ≤ maxLen) (hbytes : (n + m) * bytes ≤ 140737488355328) (hbase : base ≤ w.heap.size) :
    ∃ v' w', (Builtin.append_ #[t, t] ty #[v, .slice A m c]).run P w = .ok v' w' ∧ OwnM w' base e v' (n + m) (xs ++ news) ∧ w.grownBy w' v.ownBlock := by
  rcases hown.2 with ⟨rfl, rfl⟩ | ⟨g, cap, cur, fz, rfl, hbg, hg, hfz, hnc, hcm, hcs, htake⟩
  · obtain rfl : xs = [] := List.eq_nil_of_length_eq_zero hown.1
    obtain ⟨v', w', r1, r2, r3, -⟩ := run_append_sl (P := P) w base t ty e i z bytes ht hi hz hsize hby hzs (.slice none 0 0) 0 [] (World.ownsRow_nil _ _ _ _) A m c news hm hr h1 h63 hbytes hbase
    exact ⟨v', w', r1, OwnM.of_own r2, r3⟩
  · have hlen : (xs ++ news).length = n + m := by rw [List.length_append, hown.1, hm]
    have hsl := hown.slice
    rcases A with _ | ad
    · have hn : news = [] := by
        cases news with
        | nil => rfl
        | cons u r => obtain ⟨b, o, h, _⟩ := hr 0 u rfl; cases h
      subst hn
      obtain rfl : m = 0 := by simpa using hm.symm
      refine ⟨_, w, ?_, by simpa using hown, World.grownBy.refl w _⟩
      simp [Builtin.append_, run_underlying ht, sizeOf, typeInfo, hi, Builtin.lenOf, Builtin.firstCells, hnc, storeCells]
    · have hcells : ∀ j u, news[j]? = some u → w.cell? (ad.add j) = some u := by
        intro j u hu
        obtain ⟨b, o, h, _, hc⟩ := hr j u hu
        injection h with h
        subst h
        have e2 : (⟨b, o, none⟩ : Addr).add j = ⟨b, o + j, none⟩ := by
          unfold Addr.add
          by_cases h0 : j = 0 <;> simp [h0]
        rw [e2]
        exact hc
      by_cases hroom : n + m ≤ cap
      · have hf := run_firstCells_some (P := P) w i.size m ad m c news (by rw [hsize]; omega) hcells
        have hst := run_storeCells_atM P g n e fz news 0 cur w hg hfz (by omega) h1
        simp only [Nat.add_zero] at hst
        have hrun : (Builtin.append_ #[t, t] ty #[.slice (some ⟨g, 0, none⟩) n cap, .slice (some ad) m c]).run P w = .ok (.slice (some ⟨g, 0, none⟩) (n + m) cap) (w.setRow g (cur.toList.take n ++ news ++ cur.toList.drop (n + news.length)).toArray) := by
          rw [hsize] at hf
          simp [Builtin.append_, run_underlying ht, sizeOf, typeInfo, hi, hsize, Builtin.lenOf, hroom, hf, Addr.add_lit, hst]
        have hsz2 : (cur.toList.take n ++ news ++ cur.toList.drop (n + news.length)).toArray.size = cur.size := by
          simp only [List.size_toArray, List.length_append, List.length_take, List.length_drop, Array.length_toList]
          omega
        refine ⟨_, _, hrun, ⟨hlen, .inr ⟨g, cap, _, fz, rfl, hbg, setRow_heap w g cur _ e _ hg, ?_, hroom, hcm, ?_, ?_⟩⟩, ⟨rfl, rfl, rfl, by simp, fun k _ hk => setRow_other w g k _ (fun e => hk (by simp [Value.ownBlock, e]))⟩⟩
        · rw [hsz2]; exact hfz
        · rw [hsz2]; exact hcs
        · show (cur.toList.take n ++ news ++ cur.toList.drop (n + news.length)).take (n + m) = _
          rw [htake, ← hlen]
          exact List.take_left
      · have holds : ∀ j u, xs[j]? = some u → w.cell? ((⟨g, 0, none⟩ : Addr).add j) = some u := by
          obtain ⟨A2, c2, hA, _, _, _, hS, _⟩ := hsl
          injection hA with hA _ _
          subst hA
          intro j u hu
          obtain ⟨b, o, h, _, hc⟩ := hS j u hu
          injection h with h
          injection h with hb ho
          subst hb
          subst ho
          have e2 : (⟨g, 0, none⟩ : Addr).add j = ⟨g, 0 + j, none⟩ := by
            unfold Addr.add
            by_cases h0 : j = 0 <;> simp [h0]
          rw [e2]
          exact hc
        obtain ⟨v', w', hrun, r1, r2⟩ := run_append_arg_grows (P := P) w t ty e i z 1 bytes ht hi hz hsize hby hzs (by decide) ⟨g, 0, none⟩ n cap xs (by rw [hown.1]; omega) holds ad m c news (by omega) hcells (by omega) h63 hbytes
        exact ⟨v', w', hrun, (OwnM.of_own r1).mono hbase, ⟨r2.os, r2.tape, r2.output, r2.size, fun k hk _ => r2.block k hk (by simp)⟩⟩

theorem wpList_append_M {ops : Array Oper} {rest : List Oper} {o : Oper} {a : Act} {Q : Exit → Act → World → Prop} (hgd : o.guard = none) (s x : Operand) (t : TypeId)
    (ho : o.op = .call { callee := .builtin .append, args := #[s, x], argTypes := #[t, t] })
    (base : Nat) (e : TypeId) (i : TypeInfo) (z : Value) (bytes : Nat) (ht : P.underlying t = some (.slice e)) (hi : P.info? e = some i) (hz : i.zero = some z)
    (hsize : i.size = 1) (hby : i.bytes = bytes) (hzs : z.cells.size = 1)
    (v : Value) (n : Nat) (xs : List Value) (hs : a.eval s = v) (hown : OwnM w base e v n xs)
    (A : Option Addr) (m c : Nat) (news : List Value) (hm : news.length = m) (hx : a.eval x = .slice A m c) (hr : Sl w A news) (h1 : ∀ u ∈ news, u.oneCell' = true)
    (h63 : n + m ≤ maxLen) (hbytes : (n + m) * bytes ≤ 140737488355328) (hbase : base ≤ w.heap.size)
    (h : ∀ v' w', OwnM w' base e v' (n + m) (xs ++ news) → w.grownBy w' v.ownBlock → wpList P ops Q rest (a.put o.dst v') w') : wpList P ops Q (o :: rest) a w := by
  refine wpList_plain hgd fun K hK => ?_
  obtain ⟨v', w', hrun, h2, h3⟩ := run_append_M (P := P) w base t o.type e i z bytes ht hi hz hsize hby hzs v n xs hown A m c news hm hr h1 h63 hbytes hbase
  unfold Oper.wp execOp
  simp only [ho, resolve, invoke, builtin, Sem.run_bind, Sem.run_pure, Result.andThen_ok, List.map_toArray, List.map_cons, List.map_nil, hs, hx, hrun]
  exact hK _ _ (h v' w' h2 h3)

/-- The row that a conversion from a string lays. -/
theorem OwnM.bytes (e : TypeId) (s : ByteArray) (hs : s.size ≤ maxLen) (fz : Nat) (hfz : (bytesRow s (grownCap w s.size 0 e)).size ≤ fz) :
    OwnM (w.drew.alloc (.cells (bytesRow s (grownCap w s.size 0 e)) e (fz, fz + 1))) w.heap.size e (.slice (some ⟨w.heap.size, 0, none⟩) s.size (grownCap w s.size 0 e)) s.size (s.data.toList.map fun c => .int .u8 c.toNat) := by
  have hge := grownCap_ge w s.size 0 e
  have hcm : grownCap w s.size 0 e ≤ maxLen := grownCap_le_maxLen w s.size 0 e hs
  refine ⟨by rw [List.length_map]; rfl, .inr ⟨w.heap.size, _, _, _, rfl, Nat.le_refl _, heap_alloc_new w.drew _, .inr hfz, hge, hcm, ?_, ?_⟩⟩
  · simp [bytesRow]
    have : s.size = s.data.size := rfl
    omega
  · simp [bytesRow]
end
end Go.Proofs.Ytllafbcnikoohaa
/- Words that all walks of this seat use: bytes as cells, strings and rows, what a call leaves. -/
namespace Go.Proofs.Ytllafbcnikoohaa
open Go.RowKit
open Go.PlainAid
set_option maxRecDepth 100000

/-- A law holds: true, and nothing that was there has turned. -/
def Holds (w : World) (e : Ending) (w' : World) : Prop := e = .returned (.bool true) ∧ Below w.heap.size w w'
/-- A call that tells a truth and makes memory alone. -/
def TellsQ (q : Bool) (w : World) (e : Ending) (w' : World) : Prop := e = .returned (.bool q) ∧ Below w.heap.size w w'
/-- .. a text. -/
def TellsS (s : ByteArray) (w : World) (e : Ending) (w' : World) : Prop := e = .returned (.string s) ∧ Below w.heap.size w w'
theorem tellsQ_of {q q' : Bool} {w w' : World} (h : q = q') (hb : Below w.heap.size w w') : TellsQ q w (.returned (.bool q')) w' := by subst h; exact ⟨rfl, hb⟩
theorem tellsS_of {q q' : ByteArray} {w w' : World} (h : q = q') (hb : Below w.heap.size w w') : TellsS q w (.returned (.string q')) w' := by subst h; exact ⟨rfl, hb⟩

theorem bk_below {w w' : World} {g : Nat} {t : TypeId} {cs : Array Value} (h : Bk w g t cs) (hb : Below w.heap.size w w') : Bk w' g t cs := (hb.block g h.lt).trans h
theorem bcell {W w1 : World} (hb : Below W.heap.size W w1) : (∀ b o, b < W.heap.size → w1.cell? ⟨b, o, none⟩ = W.cell? ⟨b, o, none⟩) ∧ (∀ b o, b < W.heap.size → w1.frozen? ⟨b, o, none⟩ = W.frozen? ⟨b, o, none⟩) :=
  ⟨fun b o h => hb.cell (p := ⟨b, o, none⟩) h, fun b o h => hb.frozen (p := ⟨b, o, none⟩) h⟩
theorem Bk.four {w : World} {g : Nat} {t : TypeId} {c0 c1 c2 c3 : Value} (h : Bk w g t #[c0, c1, c2, c3]) :
    w.cell? ⟨g, 0, none⟩ = some c0 ∧ w.cell? ⟨g, 1, none⟩ = some c1 ∧ w.cell? ⟨g, 2, none⟩ = some c2 ∧ w.cell? ⟨g, 3, none⟩ = some c3 :=
  ⟨by simpa using h.cell 0, by simpa using h.cell 1, by simpa using h.cell 2, by simpa using h.cell 3⟩
theorem Bk.five {w : World} {g : Nat} {t : TypeId} {c0 c1 c2 c3 c4 : Value} (h : Bk w g t #[c0, c1, c2, c3, c4]) :
    w.cell? ⟨g, 0, none⟩ = some c0 ∧ w.cell? ⟨g, 1, none⟩ = some c1 ∧ w.cell? ⟨g, 2, none⟩ = some c2 ∧ w.cell? ⟨g, 3, none⟩ = some c3 ∧ w.cell? ⟨g, 4, none⟩ = some c4 :=
  ⟨by simpa using h.cell 0, by simpa using h.cell 1, by simpa using h.cell 2, by simpa using h.cell 3, by simpa using h.cell 4⟩

theorem str_of_list {r : ByteArray} {l : List UInt8} (h : r.data.toList = l) : r = ⟨l.toArray⟩ := by subst h; rfl
theorem str_eq {a b : ByteArray} (h : a.data.toList = b.data.toList) : a = b := by rw [str_of_list h]
theorem size_list (l : List UInt8) : (⟨l.toArray⟩ : ByteArray).size = l.length := by simp [ByteArray.size]
theorem len_size (s : ByteArray) : s.data.toList.length = s.size := rfl
theorem extract_list (s : ByteArray) (a b : Nat) : (s.extract a b).data.toList = (s.data.toList.drop a).take (b - a) := by
  rw [ByteArray.data_extract, Array.toList_extract, List.extract_eq_take_drop]
theorem append_list (a b : ByteArray) : (a ++ b).data.toList = a.data.toList ++ b.data.toList := by
  rw [ByteArray.data_append, Array.toList_append]
theorem app_list (a : ByteArray) (l : List UInt8) : (a ++ ⟨l.toArray⟩ : ByteArray) = ⟨(a.data.toList ++ l).toArray⟩ := by
  apply str_of_list
  rw [append_list]

/-- bytes as cells. -/
def u8s (l : List UInt8) : List Value := l.map fun c => .int .u8 c.toNat
theorem u8s_len (l : List UInt8) : (u8s l).length = l.length := by simp [u8s]
theorem u8s_app (a b : List UInt8) : u8s (a ++ b) = u8s a ++ u8s b := by simp [u8s]
theorem u8s_one (l : List UInt8) : ∀ u ∈ u8s l, u.oneCell' = true := by
  intro u hu
  obtain ⟨x, _, rfl⟩ := List.mem_map.1 hu
  rfl
theorem add_zero_addr (g j : Nat) : (⟨g, 0, none⟩ : Addr).add j = ⟨g, j, none⟩ := by
  unfold Addr.add
  by_cases h0 : j = 0 <;> simp [h0]

theorem info_u8 : (Try.prog.info? 5).map (fun i => (i.zero, i.size, i.bytes)) = some (some (.int .u8 0), 1, 1) := by kernel_rfl

/-- A row of bytes turned into a string: only that its cells read so is asked. -/
theorem conv_cells {W : World} {g o n cap : Nat} {L : List UInt8} (hn : n = L.length) (h : ∀ j (hj : j < L.length), W.cell? ⟨g, o + j, none⟩ = some (.int .u8 (L[j].toNat : Int))) :
    (convert 111 9 (.slice (some ⟨g, o, none⟩) n cap)).run Try.prog W = .ok (.string ⟨L.toArray⟩) W := by
  have h1 := run_convert_bytes_arg W 111 5 Try.underlying111 Try.underlying5 g o n cap (L.map fun c => (c.toNat : Int)) (by simp [hn]) (fun i hi => by
    rw [h i (by omega)]
    rw [List.getD_eq_getElem?_getD, List.getElem?_map, List.getElem?_eq_getElem (by omega)]
    rfl) 9 Try.underlying9
  rw [h1]
  have e : strOfNums (L.map fun c => (c.toNat : Int)) = ⟨L.toArray⟩ := by
    apply str_of_list
    rw [strOfNums_data, List.map_map]
    have : (fun n : Int => UInt8.ofNat n.toNat) ∘ (fun c : UInt8 => (c.toNat : Int)) = id := by
      funext c
      simp
    rw [this, List.map_id]
  rw [e]

theorem conv_own {W : World} {B g n cap : Nat} {L : List UInt8} (h : W.ownsRow B 5 1 (.slice (some ⟨g, 0, none⟩) n cap) L.length (u8s L)) :
    (convert 111 9 (.slice (some ⟨g, 0, none⟩) n cap)).run Try.prog W = .ok (.string ⟨L.toArray⟩) W := by
  have hn : n = L.length := by
    rcases h.2 with ⟨h0, _⟩ | ⟨g', cap', cur, h0, _⟩
    · cases h0
    · injection h0
  refine conv_cells hn fun j hj => ?_
  have h1 := h.cells (g := g) rfl j (.int .u8 (L[j].toNat : Int)) (by
    unfold u8s
    rw [List.getElem?_map, List.getElem?_eq_getElem hj]
    rfl)
  rw [add_zero_addr] at h1
  rw [Nat.zero_add]
  exact h1

/-- A row's bytes as a string. -/
theorem conv_row (W : World) (b0 : Nat) (A : Option Addr) (c : Nat) (l : List UInt8) (h : W.ownsRow b0 5 1 (.slice A l.length c) l.length (u8s l)) (h0 : 0 < l.length) :
    (convert 111 9 (.slice A l.length c)).run Try.prog W = .ok (.string ⟨l.toArray⟩) W := by
  obtain ⟨g, cap, hv, _, hlt⟩ := h.form (by simpa [u8s] using h0)
  simp only [Value.slice.injEq] at hv
  obtain ⟨hA, _, hc⟩ := hv
  subst hA
  subst hc
  exact conv_own h

set_option maxRecDepth 100000 in
/-- A string's bytes as a row. -/
theorem conv_bytes (b : ByteArray) (hb : b.size ≤ maxLen) (W : World) : ∃ (A : Option Addr) (cap : Nat) (W1 : World), (convert 9 111 (.string b)).run Try.prog W = .ok (.slice A b.size cap) W1 ∧ OwnM W1 W.heap.size 5 (.slice A b.size cap) b.size (u8s b.data.toList) ∧ Below W.heap.size W W1 := by
  refine ⟨_, _, _, run_bytes_of_string (P := Try.prog) W 9 111 5 b Try.underlying9 Try.underlying111 Try.underlying5, OwnM.bytes W 5 b hb _ (Nat.le_refl _), ?_⟩
  exact ((Below.refl _ _).drew).alloc (Nat.le_refl _) _
end Go.Proofs.Ytllafbcnikoohaa
/- Plain Lean: numbers as bytes, the highest first. -/
namespace Go.Proofs.Ytllafbcnikoohaa
namespace Be

/-- The k lowest bytes of a number, the highest first. -/
def low (n : Nat) : Nat → List UInt8
  | 0 => []
  | k + 1 => UInt8.ofNat (n / 256 ^ k % 256) :: low n k

/-- The number of bytes. -/
def num (l : List UInt8) : Nat := l.foldl (fun n c => n * 256 + c.toNat) 0

theorem low_len (n k : Nat) : (low n k).length = k := by
  induction k with
  | zero => rfl
  | succ k ih => simp [low, ih]

theorem fold_app (l : List UInt8) : ∀ a, l.foldl (fun n c => n * 256 + c.toNat) a = a * 256 ^ l.length + num l := by
  induction l with
  | nil => intro a; simp [num]
  | cons c l ih =>
    intro a
    unfold num
    simp only [List.foldl_cons, List.length_cons]
    rw [ih, ih (0 * 256 + c.toNat), Nat.pow_succ]
    simp [Nat.add_mul, Nat.mul_assoc, Nat.mul_comm 256, Nat.add_assoc]

theorem num_cons (c : UInt8) (l : List UInt8) : num (c :: l) = c.toNat * 256 ^ l.length + num l := by
  have := fold_app l (0 * 256 + c.toNat)
  simpa [num] using this

theorem num_snoc (c : UInt8) (l : List UInt8) : num (l ++ [c]) = num l * 256 + c.toNat := by unfold num; rw [List.foldl_append]; rfl

theorem num_lt (l : List UInt8) : num l < 256 ^ l.length := by
  induction l with
  | nil => simp [num]
  | cons c l ih =>
    rw [num_cons, List.length_cons, Nat.pow_succ]
    have hc := c.toNat_lt
    have : c.toNat * 256 ^ l.length ≤ 255 * 256 ^ l.length := Nat.mul_le_mul_right _ (by omega)
    omega

theorem num_low (n k : Nat) : num (low n k) = n % 256 ^ k := by
  induction k with
  | zero => simp [low, num, Nat.mod_one]
  | succ k ih =>
    unfold low
    rw [num_cons, low_len, ih]
    have e : (UInt8.ofNat (n / 256 ^ k % 256)).toNat = n / 256 ^ k % 256 := by rw [UInt8.toNat_ofNat']; omega
    rw [e, Nat.pow_succ, Nat.mod_mul]
    rw [Nat.mul_comm, Nat.add_comm]

theorem num_low_fit (n k : Nat) (h : n < 256 ^ k) : num (low n k) = n := by rw [num_low, Nat.mod_eq_of_lt h]

theorem num_inj : ∀ (a b : List UInt8), a.length = b.length → num a = num b → a = b
  | [], [], _, _ => rfl
  | [], _ :: _, h, _ => by simp at h
  | _ :: _, [], h, _ => by simp at h
  | x :: a, y :: b, h, hn => by
    have hl : a.length = b.length := by simpa using h
    rw [num_cons, num_cons, hl] at hn
    have ha := num_lt a
    have hb := num_lt b
    rw [hl] at ha
    have hp : 0 < 256 ^ b.length := Nat.pow_pos (by decide)
    have e1 : (x.toNat * 256 ^ b.length + num a) / 256 ^ b.length = x.toNat := by
      rw [Nat.mul_comm, Nat.mul_add_div hp, Nat.div_eq_of_lt ha, Nat.add_zero]
    have e2 : (y.toNat * 256 ^ b.length + num b) / 256 ^ b.length = y.toNat := by
      rw [Nat.mul_comm, Nat.mul_add_div hp, Nat.div_eq_of_lt hb, Nat.add_zero]
    have hx : x.toNat = y.toNat := by rw [← e1, hn, e2]
    have hxy : x = y := UInt8.toNat_inj.1 hx
    subst hxy
    rw [num_inj a b hl (by omega)]

theorem low_num (l : List UInt8) (k : Nat) (h : l.length = k) : low (num l) k = l := by
  refine num_inj _ _ (by rw [low_len, h]) ?_
  rw [num_low_fit _ _ (by rw [← h]; exact num_lt l)]

/-- Byte by byte from the end: what the shifts leave. -/
theorem div_step (n j : Nat) : n / 256 ^ j / 256 = n / 256 ^ (j + 1) := by rw [Nat.div_div_eq_div_mul, Nat.pow_succ]

theorem low_of_div (n m k : Nat) : low (n / 256 ^ m) k ++ low n m = low n (k + m) := by
  induction k with
  | zero => simp [low]
  | succ k ih =>
    rw [show k + 1 + m = (k + m) + 1 by omega]
    show (UInt8.ofNat (n / 256 ^ m / 256 ^ k % 256) :: low (n / 256 ^ m) k) ++ low n m = UInt8.ofNat (n / 256 ^ (k + m) % 256) :: low n (k + m)
    rw [List.cons_append, ih, Nat.div_div_eq_div_mul, ← Nat.pow_add, Nat.add_comm m k]
end Be
end Go.Proofs.Ytllafbcnikoohaa
/- Contracts of field.Put and field.Take, and of the reference's, where they succeed. -/
namespace Go.Proofs.Ytllafbcnikoohaa
open Go.RowKit
open Go.PlainAid

set_option maxRecDepth 100000
def TellsSE (s : ByteArray) (n : Int) (w : World) (e : Ending) (w' : World) : Prop := e = .returned (.tuple #[.string s, .int .i64 n]) ∧ Below w.heap.size w w'
theorem tellsSE_of {q q' : ByteArray} {n : Int} {w w' : World} (h : q = q') (hb : Below w.heap.size w w') : TellsSE q n w (.returned (.tuple #[.string q', .int .i64 n])) w' := by subst h; exact ⟨rfl, hb⟩

/-- What Put's row holds with i places to go. -/
def putCells (n k i : Nat) : Array Value := (List.replicate i (Value.int .u8 0) ++ u8s (Be.low n (k - i))).toArray

theorem putCells_step (n k m : Nat) (h : m < k) : (putCells n k (m + 1)).setIfInBounds m (.int .u8 ((n / 256 ^ (k - (m + 1)) : Nat) % 256 : Int)) = putCells n k m := by
  unfold putCells
  have e : k - m = (k - (m + 1)) + 1 := by omega
  rw [e]
  show _ = (List.replicate m (Value.int .u8 0) ++ (Value.int .u8 ((UInt8.ofNat (n / 256 ^ (k - (m + 1)) % 256)).toNat) :: u8s (Be.low n (k - (m + 1))))).toArray
  rw [List.replicate_succ', List.append_assoc, List.setIfInBounds_toArray, List.set_append_right _ _ (by simp)]
  simp

theorem pow256 (k : Nat) (h : k ≤ 8) : 256 ^ k ≤ 18446744073709551616 := Nat.le_trans (Nat.pow_le_pow_right (by decide) h) (by decide)

theorem made_u8 (k n : Nat) : madeCells #[Value.int .u8 0] k = putCells n k k := by
  unfold putCells
  rw [Nat.sub_self]
  apply Array.ext
  · simp [madeCells, u8s, Be.low]
  · intro i h1 h2
    simp [madeCells, u8s, Be.low]
    rw [Nat.mod_one]
    rfl

/-- Where Put's loop stands: i places to go. -/
def PutAt (w : World) (n k i : Nat) (wr : World) : Prop := i ≤ k ∧ Bk wr w.heap.size 5 (putCells n k i) ∧ Below w.heap.size w wr

theorem putCells_at (n k m : Nat) : (putCells n k (m + 1))[m]? = some (.int .u8 0) := by
  unfold putCells
  rw [List.getElem?_toArray, List.getElem?_append_left (by simp), List.getElem?_replicate, if_pos (by omega)]

theorem putCells_end (n k : Nat) (w : World) (W : World) (h : Bk W w.heap.size 5 (putCells n k 0)) :
    (convert 111 9 (.slice (some ⟨w.heap.size, 0, none⟩) k k)).run Try.prog W = .ok (.string ⟨(Be.low n k).toArray⟩) W := by
  refine conv_cells (by rw [Be.low_len]) fun j hj => ?_
  rw [Nat.zero_add, h.cell j]
  unfold putCells
  rw [List.getElem?_toArray, List.replicate_zero, List.nil_append, Nat.sub_zero]
  unfold u8s
  rw [List.getElem?_map, List.getElem?_eq_getElem hj]
  rfl

set_option maxRecDepth 100000 in
set_option maxHeartbeats 1000000 in
theorem put_ok (s : ByteArray) (n k : Nat) (w : World) (hs : s.size ≤ 1000000) (h1 : 1 ≤ k) (h8 : k ≤ 8) (hn : n < 256 ^ k) :
    Calls Try.prog 47 #[.string s, .int .u64 n, .int .i64 k] w (TellsSE (s ++ ⟨(Be.low n k).toArray⟩) 0 w) := by
  have hn64 : n < 18446744073709551616 := Nat.lt_of_lt_of_le hn (pow256 k h8)
  have hmk := run_make_row' (P := Try.prog) 111 5 (.int .u8 0) 1 Try.underlying111 info_u8 rfl .i64 .i64 k (by omega) (by omega) w
  rw [made_u8 k n] at hmk
  have HS := Lib.hid (show PutAt w n k k (w.alloc (.cells (putCells n k k) 5)) from ⟨Nat.le_refl _, Bk.new _ _ _, (Below.refl _ _).alloc (Nat.le_refl _) _⟩)
  have q1 : decide ((k : Int) < 1) = false := by simp; omega
  have q2 : decide (8 < (k : Int)) = false := by simp; omega
  have hq : (k < 8 ∧ decide ((k : Int) < 8) = true ∧ (n : Int) / 2 ^ (8 * k) = 0) ∨ (¬ k < 8 ∧ decide ((k : Int) < 8) = false) := by
    by_cases hk8 : k < 8
    · refine Or.inl ⟨hk8, by simp; omega, ?_⟩
      have e : (2 : Nat) ^ (8 * k) = 256 ^ k := by rw [Nat.pow_mul]
      have := Nat.div_eq_of_lt (show n < 2 ^ (8 * k) by rw [e]; exact hn)
      exact_mod_cast this
    · exact Or.inr ⟨hk8, by simp; omega⟩
  have HN64 := Lib.hid hn64
  clear hn hn64
  rcases hq with ⟨hk8, q3, e3⟩ | ⟨hk8, q3⟩
  all_goals
    go_enter Try.func47, Try.ntmps47
    go_wp2_with fail
    go_loopw [1, 9] (fun x i wr => ∃ (j : Nat), i = .int .i64 ((j : Int) - 1) ∧ x = .int .u64 ((n / 256 ^ (k - j) : Nat)) ∧ PutAt w n k j wr) (fun _ i _ => (intOf i + 1).toNat)
    case atStart => exact ⟨k, rfl, by rw [Nat.sub_self]; simp, HS.out⟩
    case round =>
      clear HS hmk
      obtain ⟨j, rfl, rfl, hj, hb, hbl⟩ := hrel
      cases j with
      | zero =>
        have hcv := putCells_end n k w wr hb
        have e : (((0 : Nat) : Int) - 1) = -1 := by omega
        rw [e]
        have hsz : (⟨(Be.low n k).toArray⟩ : ByteArray).size ≤ 8 := by rw [size_list, Be.low_len]; exact h8
        generalize (⟨(Be.low n k).toArray⟩ : ByteArray) = ls at *
        clear e hb
        go_wp2_with fail
        go_ret2
        exact tellsSE_of rfl hbl
      | succ m =>
        have e : (((m + 1 : Nat) : Int) - 1) = m := by omega
        rw [e]
        have hc := hb.cell m
        rw [putCells_at n k m] at hc
        have hf := hb.frozen m
        have HB := Lib.hid (hb.put m (.int .u8 ((n / 256 ^ (k - (m + 1)) : Nat) % 256 : Int)))
        have HST := Lib.hid (putCells_step n k m (by omega))
        have HL := Lib.hid hbl
        have HD := Lib.hid (show n / 256 ^ (k - (m + 1)) / 256 = n / 256 ^ (k - m) by rw [Be.div_step]; congr 2; omega)
        clear e hb hbl
        generalize n / 256 ^ (k - (m + 1)) = x at *
        go_wp2_with fail
        go_roundw
        case rel => exact ⟨m, by go_num, by rw [← HD.out]; go_num, by omega, by rw [← HST.out]; exact HB.out, HL.out.setCell (Nat.le_refl _) _⟩
        case measure => simp [intOf]
end Go.Proofs.Ytllafbcnikoohaa
/- Contracts of field.Take, and of the reference's, where they succeed. -/
namespace Go.Proofs.Ytllafbcnikoohaa
open Go.RowKit
open Go.PlainAid
set_option maxRecDepth 100000

/-- The number that stands there. -/
def numAt (s : ByteArray) (p k : Nat) : Nat := Be.num ((s.data.toList.drop p).take k)

def TellsUE (n : Nat) (w : World) (e : Ending) (w' : World) : Prop := e = .returned (.tuple #[.int .u64 n, .int .i64 0]) ∧ Below w.heap.size w w'
theorem tellsUE_of {n : Nat} {z : Int} {w w' : World} (h : (n : Int) = z) (hb : Below w.heap.size w w') : TellsUE n w (.returned (.tuple #[.int .u64 z, .int .i64 0])) w' := by subst h; exact ⟨rfl, hb⟩

theorem or_step (n c : Nat) (hn : n < 72057594037927936) (hc : c < 256) : bits .or .u64 ((n : Int) * 256) (c : Int) = ((n * 256 + c : Nat) : Int) := by
  have h := u64_or_nat (n * 256) c (by omega) (by omega)
  rw [nat_or_256 n c hc] at h
  rw [← h]
  congr 1

theorem num_take_lt (l : List UInt8) (j : Nat) (hj : j ≤ 7) : Be.num (l.take j) < 72057594037927936 := by
  have h := Be.num_lt (l.take j)
  have h2 : 256 ^ (l.take j).length ≤ 256 ^ 7 := Nat.pow_le_pow_right (by decide) (by rw [List.length_take]; omega)
  have h3 : 256 ^ 7 = 72057594037927936 := by decide
  omega

theorem num_take_snoc (l : List UInt8) (j : Nat) (h : j < l.length) : Be.num (l.take (j + 1)) = Be.num (l.take j) * 256 + l[j].toNat := by
  rw [List.take_succ_eq_append_getElem h, Be.num_snoc]

set_option maxHeartbeats 1000000 in
theorem take_ok (s : ByteArray) (p k : Nat) (w : World) (hs : s.size ≤ 1000000) (h1 : 1 ≤ k) (h8 : k ≤ 8) (hp : p + k ≤ s.size) :
    Calls Try.prog 54 #[.string s, .int .i64 p, .int .i64 k] w (TellsUE (numAt s p k) w) := by
  have q1 : decide ((k : Int) < 1) = false := by simp; omega
  have q2 : decide (8 < (k : Int)) = false := by simp; omega
  have q3 : decide ((p : Int) < 0) = false := by simp
  have q4 : p ≤ s.size := by omega
  have q5 : decide ((s.size : Int) - p < k) = false := by simp; omega
  have q6 : decide (s.size < p) = false := by simp; omega
  have hl : (s.extract p (p + k)).data.toList = (s.data.toList.drop p).take k := by rw [extract_list]; congr 1; omega
  have hsz : (s.extract p (p + k)).size = k := by rw [ByteArray.size_extract]; omega
  have HE := Lib.hid (show numAt s p k = Be.num (s.extract p (p + k)).data.toList by unfold numAt; rw [hl])
  obtain ⟨A, cap, W1, hcv, hown, hb1⟩ := conv_bytes (s.extract p (p + k)) (by rw [hsz]; unfold maxLen; omega) w
  rw [hsz] at hcv hown
  obtain ⟨A2, c2, hA2, -, -, -, hsl, -⟩ := hown.slice
  simp only [Value.slice.injEq, true_and] at hA2
  obtain ⟨rfl, rfl⟩ := hA2
  have hlen : (s.extract p (p + k)).data.toList.length = k := by rw [len_size, hsz]
  have HB := Lib.hid hb1
  have HS := Lib.hid hsl
  have HLEN := Lib.hid hlen
  generalize (s.extract p (p + k)).data.toList = l at *
  clear hl hsz hown hb1 hsl hlen
  go_enter Try.func54, Try.ntmps54
  go_wp2_with fail
  clear hcv
  go_loop [8, 43] (fun x i => ∃ (j : Nat), i = .int .i64 j ∧ x = .int .u64 (Be.num (l.take j) : Nat) ∧ j ≤ k) (fun _ i => k - (intOf i).toNat)
  case atStart => exact ⟨0, rfl, by simp [Be.num], Nat.zero_le _⟩
  case round =>
    obtain ⟨j, rfl, rfl, hj⟩ := hrel
    by_cases hlt : j < k
    · have hjl : j < l.length := by rw [HLEN.out]; exact hlt
      obtain ⟨b, o, rfl, hbl, hc⟩ := HS.out j (.int .u8 (l[j].toNat : Nat)) (by unfold u8s; rw [List.getElem?_map, List.getElem?_eq_getElem hjl]; rfl)
      have HN := Lib.hid (num_take_snoc l j hjl)
      have hx := num_take_lt l j (by omega)
      have e1 := or_step _ _ hx (show l[j].toNat < 256 by have := l[j].toNat_lt; omega)
      have hcl := l[j].toNat_lt
      generalize Be.num (l.take j) = x at *
      generalize l[j].toNat = c at *
      go_wp2_with fail
      go_round
      case rel => exact ⟨j + 1, by go_num, by rw [HN.out]; go_num, by omega⟩
      case measure => simp [intOf]; omega
    · obtain rfl : j = k := by omega
      have HT := Lib.hid (show l.take j = l from List.take_of_length_le (by rw [HLEN.out]; exact Nat.le_refl _))
      go_wp2_with fail
      go_ret2
      exact tellsUE_of (by rw [HE.out, HT.out]) HB.out

theorem drop_take_at (l : List UInt8) (p k j : Nat) (hj : j < k) (hp : p + k ≤ l.length) : ((l.drop p).take k)[j]'(by rw [List.length_take, List.length_drop]; omega) = l[p + j]'(by omega) := by
  simp

/-- Where the reference's Put stands: j places to go. -/
def RPutAt (w : World) (n k j : Nat) (v : Value) (wr : World) : Prop :=
  j ≤ k ∧ (∃ A c, v = .slice A (k - j) c) ∧ wr.ownsRow w.heap.size 5 1 v (k - j) (u8s ((Be.low n k).take (k - j))) ∧ Below w.heap.size w wr

theorem low_at (n k m : Nat) (h : m < k) : (Be.low n k).take (k - m) = (Be.low n k).take (k - (m + 1)) ++ [UInt8.ofNat (n / 256 ^ m % 256)] := by
  have e : k - m = (k - (m + 1)) + 1 := by omega
  have h0 := Be.low_of_div n (m + 1) (k - (m + 1))
  rw [show k - (m + 1) + (m + 1) = k by omega] at h0
  rw [← h0, e]
  have hl := Be.low_len (n / 256 ^ (m + 1)) (k - (m + 1))
  show ((Be.low (n / 256 ^ (m + 1)) (k - (m + 1))) ++ (UInt8.ofNat (n / 256 ^ m % 256) :: Be.low n m)).take (k - (m + 1) + 1) = ((Be.low (n / 256 ^ (m + 1)) (k - (m + 1))) ++ (UInt8.ofNat (n / 256 ^ m % 256) :: Be.low n m)).take (k - (m + 1)) ++ [UInt8.ofNat (n / 256 ^ m % 256)]
  generalize Be.low (n / 256 ^ (m + 1)) (k - (m + 1)) = a at *
  rw [← hl, List.take_left]
  simp [List.take_append, List.take_of_length_le]

theorem top_lt (n k : Nat) (h1 : 1 ≤ k) (hn : n < 256 ^ k) : n / 256 ^ (k - 1) < 256 := by
  refine Nat.div_lt_of_lt_mul ?_
  rw [← Nat.pow_succ, Nat.succ_eq_add_one, show k - 1 + 1 = k by omega]
  exact hn

theorem sl_new (w : World) (e : TypeId) (v : Value) : Sl (w.alloc (.cells #[v] e)) (some ⟨w.heap.size, 0, none⟩) [v] := by
  intro j u hu
  cases j with
  | zero =>
    simp at hu
    subst hu
    exact ⟨w.heap.size, 0, rfl, by simp, by simp⟩
  | succ j => simp at hu

end Go.Proofs.Ytllafbcnikoohaa
/- A slice's parts, plain. -/
namespace Go.Proofs.Ytllafbcnikoohaa
/-- A slice: where it lies, its length, its room. -/
structure Rw where
  A : Option Addr
  n : Nat
  c : Nat
def Rw.val (r : Rw) : Value := .slice r.A r.n r.c
def Rw.none : Rw := ⟨Option.none, 0, 0⟩
end Go.Proofs.Ytllafbcnikoohaa
/- Rows of structs whose parts may lie elsewhere: a row that is read, a row that grows. Over any program. -/
namespace Go.Proofs.Ytllafbcnikoohaa
open Go.RowKit
set_option linter.unusedVariables false

/-- What keeps the blocks of S keeps a thing's parts. -/
def Stable {α : Type} (At : World → (Nat → Prop) → α → List Value → Prop) : Prop :=
  ∀ {w w' : World} {S T : Nat → Prop}, w.heap.size ≤ w'.heap.size → (∀ b, S b → b < w.heap.size → w'.heap[b]? = w.heap[b]?) → (∀ b, S b → b < w.heap.size → T b) → ∀ d c, At w S d c → At w' T d c

/-- A slice of things of k cells. -/
def RowOf {α : Type} (k : Nat) (At : World → (Nat → Prop) → α → List Value → Prop) (w : World) (S : Nat → Prop) (r : Rw) (ds : List α) : Prop :=
  r.n = ds.length ∧ r.n ≤ r.c ∧ r.c ≤ maxLen ∧ ∀ (i : Nat) (d : α), ds[i]? = some d → ∃ (b o : Nat) (c : List Value), r.A = some ⟨b, o, none⟩ ∧ (S b ∧ b < w.heap.size) ∧ c.length = k ∧
    (∀ (j : Nat) (u : Value), c[j]? = some u → w.cell? ⟨b, o + i * k + j, none⟩ = some u) ∧ At w S d c
theorem RowOf.nil {α : Type} {k : Nat} {At : World → (Nat → Prop) → α → List Value → Prop} (w : World) (S : Nat → Prop) : RowOf k At w S Rw.none [] :=
  ⟨rfl, Nat.le_refl _, Nat.zero_le _, fun i d h => by simp at h⟩
theorem RowOf.keep {α : Type} {k : Nat} {At : World → (Nat → Prop) → α → List Value → Prop} (hA : Stable At) {w w' : World} {S T : Nat → Prop} {r : Rw} {ds : List α} (h : RowOf k At w S r ds)
    (hs : w.heap.size ≤ w'.heap.size) (hk : ∀ b, S b → b < w.heap.size → w'.heap[b]? = w.heap[b]?) (hT : ∀ b, S b → b < w.heap.size → T b) : RowOf k At w' T r ds := by
  obtain ⟨h1, h2, h3, h4⟩ := h
  refine ⟨h1, h2, h3, fun i d hd => ?_⟩
  obtain ⟨b, o, c, q1, q2, q3, q4, q5⟩ := h4 i d hd
  refine ⟨b, o, c, q1, ⟨hT b q2.1 q2.2, Nat.lt_of_lt_of_le q2.2 hs⟩, q3, fun j u hu => ?_, hA hs hk hT d c q5⟩
  exact (World.cell?_of_block (a := ⟨b, o + i * k + j, none⟩) (hk b q2.1 q2.2)).trans (q4 j u hu)

theorem flatten_get {k : Nat} : ∀ (css : List (List Value)), (∀ c ∈ css, c.length = k) → ∀ (i : Nat) (c : List Value), css[i]? = some c → ∀ j, j < k → css.flatten[i * k + j]? = c[j]?
  | [], _, i, c, h, _, _ => by simp at h
  | x :: css, hl, i, c, h, j, hj => by
    have hx : x.length = k := hl x (by simp)
    cases i with
    | zero =>
      obtain rfl : x = c := by simpa using h
      rw [Nat.zero_mul, Nat.zero_add, List.flatten_cons, List.getElem?_append_left (by omega)]
    | succ i =>
      have := flatten_get css (fun c hc => hl c (by simp [hc])) i c (by simpa using h) j hj
      rw [List.flatten_cons, List.getElem?_append_right (by rw [hx, Nat.add_mul]; omega), ← this]
      congr 1
      rw [hx, Nat.add_mul]
      omega

/-- A row of the call's own that holds these things; what lies within them lies in other blocks from B on. -/
def GRow {α : Type} (E : TypeId) (k : Nat) (At : World → (Nat → Prop) → α → List Value → Prop) (w : World) (B : Nat) (v : Value) (ds : List α) : Prop :=
  ∃ css : List (List Value), css.length = ds.length ∧ (∀ c ∈ css, c.length = k) ∧ w.ownsRow B E k v ds.length css.flatten ∧
    ∀ (i : Nat) (d : α) (c : List Value), ds[i]? = some d → css[i]? = some c → At w (fun b => B ≤ b ∧ v.ownBlock ≠ some b) d c

section
variable {α : Type} {E : TypeId} {k : Nat} {At : World → (Nat → Prop) → α → List Value → Prop}
theorem GRow.nil (w : World) (B : Nat) : GRow E k At w B (.slice none 0 0) [] := ⟨[], rfl, fun c h => by simp at h, World.ownsRow_nil _ _ _ _, fun i d c h => by simp at h⟩
theorem GRow.keep (hA : Stable At) {w w' : World} {B : Nat} {v : Value} {ds : List α} (h : GRow E k At w B v ds) (hs : w.heap.size ≤ w'.heap.size) (hk : ∀ b, B ≤ b → b < w.heap.size → w'.heap[b]? = w.heap[b]?) : GRow E k At w' B v ds := by
  obtain ⟨css, h1, h2, h3, h4⟩ := h
  refine ⟨css, h1, h2, ?_, fun i d c hd hc => hA hs (fun b hb hlt => hk b hb.1 hlt) (fun _ h _ => h) d c (h4 i d c hd hc)⟩
  obtain ⟨a1, a2⟩ := h3
  refine ⟨a1, ?_⟩
  rcases a2 with a2 | ⟨g, cap, cur, rfl, hb, hh, r⟩
  · exact Or.inl a2
  · exact Or.inr ⟨g, cap, cur, rfl, hb, (hk g hb (lt_of_block hh)).trans hh, r⟩
theorem GRow.off (hA : Stable At) {w w' : World} {B : Nat} {v : Value} {ds : List α} {S : List Nat} (h : GRow E k At w B v ds) (ho : Off S w w') (hS : ∀ g ∈ S, g < B) : GRow E k At w' B v ds :=
  h.keep hA ho.size (fun b hb hlt => ho.block b hlt (fun hm => by have := hS b hm; omega))
theorem GRow.below (hA : Stable At) {w w' : World} {B : Nat} {v : Value} {ds : List α} (h : GRow E k At w B v ds) (hb : Below w.heap.size w w') : GRow E k At w' B v ds :=
  h.keep hA hb.size (fun b _ hlt => hb.block b hlt)
theorem GRow.lt {w : World} {B : Nat} {v : Value} {ds : List α} (h : GRow E k At w B v ds) : ∀ g, v.ownBlock = some g → B ≤ g ∧ g < w.heap.size := by
  obtain ⟨css, _, _, h3, _⟩ := h
  exact h3.lt

/-- One more: its cells stand behind the row's; its parts lie in blocks that are newer than the row's world w. -/
theorem GRow.push (hA : Stable At) {w w1 w2 w3 : World} {B : Nat} {v v' : Value} {ds : List α} {d : α} {c : List Value} {css : List (List Value)} (hB : B ≤ w.heap.size)
    (hcl : css.length = ds.length) (hck : ∀ c ∈ css, c.length = k) (hown : w.ownsRow B E k v ds.length css.flatten)
    (hall : ∀ (i : Nat) (d : α) (c : List Value), ds[i]? = some d → css[i]? = some c → At w (fun b => B ≤ b ∧ v.ownBlock ≠ some b) d c)
    (h1 : ∀ b, B ≤ b → b < w.heap.size → w1.heap[b]? = w.heap[b]?) (hs1 : w.heap.size ≤ w1.heap.size) (hc : c.length = k) (ht : At w1 (fun b => w.heap.size ≤ b) d c) (h2 : Below w1.heap.size w1 w2)
    (hown3 : w3.ownsRow B E k v' (ds.length + 1) (css.flatten ++ c)) (hgr : w2.grownBy w3 v.ownBlock) (hat : v'.ownBlock = v.ownBlock ∨ v'.ownBlock = some w2.heap.size) :
    GRow E k At w3 B v' (ds ++ [d]) := by
  have s2 := h2.size
  have s3 := hgr.size
  have hvlt := hown.lt
  have hne : ∀ b, b < w2.heap.size → v.ownBlock ≠ some b → v'.ownBlock ≠ some b := by
    intro b hb hn e
    rcases hat with h | h
    · exact hn (h ▸ e)
    · rw [h] at e; injection e with e; omega
  refine ⟨css ++ [c], by simp [hcl], fun x hx => ?_, by rw [List.flatten_append, List.length_append]; simpa using hown3, fun i x y hx hy => ?_⟩
  · rcases List.mem_append.1 hx with hx | hx
    · exact hck x hx
    · rw [List.mem_singleton.1 hx]; exact hc
  · by_cases hlt : i < ds.length
    · rw [List.getElem?_append_left hlt] at hx
      rw [List.getElem?_append_left (by omega)] at hy
      refine hA (by omega) (fun b hb hbl => ?_) (fun b hb hbl => ⟨hb.1, hne b (by omega) hb.2⟩) _ _ (hall i x y hx hy)
      exact (hgr.block b (by omega) (fun e => hb.2 e.symm)).trans ((h2.block b (by omega)).trans (h1 b hb.1 hbl))
    · have hi : i < (ds ++ [d]).length := (List.getElem?_eq_some_iff.1 hx).1
      rw [List.length_append, List.length_singleton] at hi
      obtain rfl : i = ds.length := by omega
      obtain rfl : d = x := by simpa using hx
      rw [← hcl] at hy
      obtain rfl : c = y := by simpa using hy
      refine hA (by omega) (fun b hb hbl => ?_) (fun b hb hbl => ⟨by omega, hne b (by omega) (fun e => by have := (hvlt b e).2; omega)⟩) _ _ ht
      exact (hgr.block b (by omega) (fun e => by have := (hvlt b e.symm).2; omega)).trans (h2.block b hbl)

/-- As a row that is read. -/
theorem GRow.row (hA : Stable At) {w : World} {B : Nat} {v : Value} {ds : List α} (h : GRow E k At w B v ds) : ∃ r : Rw, v = .slice r.A r.n r.c ∧ RowOf k At w (fun b => B ≤ b) r ds := by
  obtain ⟨css, h1, h2, h3, h4⟩ := h
  obtain ⟨hl, hr⟩ := h3
  rcases hr with ⟨rfl, hn⟩ | ⟨g, cap, cur, rfl, hb, hh, hc, hm, hcs, htk⟩
  · obtain rfl : ds = [] := List.eq_nil_of_length_eq_zero hn
    exact ⟨Rw.none, rfl, RowOf.nil _ _⟩
  · refine ⟨⟨some ⟨g, 0, none⟩, ds.length, cap⟩, rfl, rfl, by show ds.length ≤ cap; omega, hm, fun i d hd => ?_⟩
    have hi : i < ds.length := (List.getElem?_eq_some_iff.1 hd).1
    obtain ⟨c, hci⟩ : ∃ c, css[i]? = some c := ⟨css[i]'(by omega), List.getElem?_eq_getElem (by omega)⟩
    have hck := h2 c (List.mem_of_getElem? hci)
    refine ⟨g, 0, c, rfl, ⟨hb, lt_of_block hh⟩, hck, fun j u hu => ?_, hA (Nat.le_refl _) (fun _ _ _ => rfl) (fun _ h _ => h.1) _ _ (h4 i d c hd hci)⟩
    have hj : j < k := by rw [← hck]; exact (List.getElem?_eq_some_iff.1 hu).1
    rw [cell_of_row w g _ cur _ (0, 0) hh, Nat.zero_add]
    have hf := flatten_get css h2 i c hci j hj
    rw [hu] at hf
    have hlt : i * k + j < css.flatten.length := (List.getElem?_eq_some_iff.1 hf).1
    rw [← htk, List.getElem?_take_of_lt (by omega)] at hf
    rw [← Array.getElem?_toList]
    exact hf
end

/-- A string's one cell. -/
def StrAt (_ : World) (_ : Nat → Prop) (s : ByteArray) (c : List Value) : Prop := c = [.string s] ∧ s.size ≤ maxLen
theorem strAt_stable : Stable StrAt := fun _ _ _ _ _ h => h
abbrev SRow := RowOf 1 StrAt
end Go.Proofs.Ytllafbcnikoohaa
/- A node's cells, plain: their bytes, which may be, a node's bytes. -/
namespace Go.Proofs.Ytllafbcnikoohaa
open Go.RowKit
set_option linter.unusedVariables false
/-- A cell. -/
structure Ce where
  key : ByteArray
  val : ByteArray
  over : Nat
  size : Nat
  child : Nat
def Ce.zero : Ce := ⟨⟨#[]⟩, ⟨#[]⟩, 0, 0, 0⟩
def Ce.vals (c : Ce) : List Value := [.string c.key, .string c.val, .int .i64 c.over, .int .i64 c.size, .int .i64 c.child]
def CeAt (w : World) (S : Nat → Prop) (c : Ce) (vs : List Value) : Prop := vs = c.vals
theorem ceAt_stable : Stable CeAt := fun _ _ _ d c h => h
/-- Cells as they lie. -/
def CRow (w : World) (S : Nat → Prop) (r : Rw) (l : List Ce) : Prop := RowOf 5 CeAt w S r l
namespace Nd
/-- How many bytes, the slot too. -/
def size (leaf : Bool) (c : Ce) : Nat := if leaf then (if 0 < c.over then 4 + c.key.size + 9 else 4 + c.key.size + 3 + c.val.size) else 4 + c.key.size + 4
def sum (leaf : Bool) (l : List Ce) : Nat := 2 + (l.map (size leaf)).sum
def rightLeaf (c : Ce) : Bool := 0 < c.key.size && c.key.size ≤ 120 && c.child == 0 && (if c.over = 0 then c.size == 0 && c.val.size ≤ 96 else c.val.size == 0 && c.over < 512 && 96 < c.size && c.size ≤ 4000)
def rightBranch (c : Ce) : Bool := c.key.size ≤ 120 && 1 ≤ c.child && c.child < 512 && c.val.size == 0 && c.over == 0 && c.size == 0
def rightOne (leaf : Bool) (c : Ce) : Bool := if leaf then rightLeaf c else rightBranch c
theorem less_irrefl : ∀ a : List UInt8, Op.bytesLess a a = false
  | [] => rfl
  | a :: l => by simp [Op.bytesLess, less_irrefl l]
theorem less_trans : ∀ {a b c : List UInt8}, Op.bytesLess a b = true → Op.bytesLess b c = true → Op.bytesLess a c = true
  | _, [], _, h, _ => by cases ‹List UInt8› <;> simp [Op.bytesLess] at h
  | _, _ :: _, [], _, h => by simp [Op.bytesLess] at h
  | [], _ :: _, _ :: _, _, _ => rfl
  | x :: a, y :: b, z :: c, h1, h2 => by
    simp only [Op.bytesLess, Bool.or_eq_true, Bool.and_eq_true, decide_eq_true_eq, beq_iff_eq] at h1 h2 ⊢
    rcases h1 with h1 | ⟨rfl, h1⟩
    · rcases h2 with h2 | ⟨rfl, h2⟩
      · exact .inl (UInt8.lt_trans h1 h2)
      · exact .inl h1
    · rcases h2 with h2 | ⟨rfl, h2⟩
      · exact .inl h2
      · exact .inr ⟨rfl, less_trans h1 h2⟩
theorem less_total : ∀ (a b : List UInt8), Op.bytesLess a b = true ∨ a = b ∨ Op.bytesLess b a = true
  | [], [] => .inr (.inl rfl)
  | [], _ :: _ => .inl rfl
  | _ :: _, [] => .inr (.inr rfl)
  | x :: a, y :: b => by
    simp only [Op.bytesLess, Bool.or_eq_true, Bool.and_eq_true, decide_eq_true_eq, beq_iff_eq, List.cons.injEq]
    rcases less_total a b with h | h | h <;> by_cases e : x = y
    · exact .inl (.inr ⟨e, h⟩)
    · rcases UInt8.lt_or_lt_of_ne e with h1 | h1
      · exact .inl (.inl h1)
      · exact .inr (.inr (.inl h1))
    · exact .inr (.inl ⟨e, h⟩)
    · rcases UInt8.lt_or_lt_of_ne e with h1 | h1
      · exact .inl (.inl h1)
      · exact .inr (.inr (.inl h1))
    · exact .inr (.inr (.inr ⟨e.symm, h⟩))
    · rcases UInt8.lt_or_lt_of_ne e with h1 | h1
      · exact .inl (.inl h1)
      · exact .inr (.inr (.inl h1))
/-- Of two texts the lesser, as the walk spells it. -/
def lt (a b : ByteArray) : Bool := Op.bytesLess a.toList b.toList
theorem str_ext {a b : ByteArray} (h : a.toList = b.toList) : a = b := by
  rw [ByteArray.toList_eq, ByteArray.toList_eq] at h
  obtain ⟨⟨a⟩⟩ := a
  obtain ⟨⟨b⟩⟩ := b
  simp only at h
  subst h
  rfl
theorem lt_irrefl (a : ByteArray) : lt a a = false := less_irrefl _
theorem lt_trans {a b c : ByteArray} (h1 : lt a b = true) (h2 : lt b c = true) : lt a c = true := less_trans h1 h2
theorem lt_asymm {a b : ByteArray} (h : lt a b = true) : lt b a = false := by
  cases h2 : lt b a with
  | false => rfl
  | true => have := lt_trans h h2; rw [lt_irrefl] at this; cases this
theorem lt_total (a b : ByteArray) : lt a b = true ∨ a = b ∨ lt b a = true := by
  rcases less_total a.toList b.toList with h | h | h
  · exact .inl h
  · exact .inr (.inl (str_ext h))
  · exact .inr (.inr h)
theorem lt_ne {a b : ByteArray} (h : lt a b = true) : (a.toList == b.toList) = false ∧ (b.toList == a.toList) = false := by
  constructor
  · rw [beq_eq_false_iff_ne]; intro e; rw [str_ext e, lt_irrefl] at h; cases h
  · rw [beq_eq_false_iff_ne]; intro e; rw [str_ext e, lt_irrefl] at h; cases h
/-- Keys rise. -/
def rise : List Ce → Bool
  | [] => true
  | [_] => true
  | a :: b :: l => lt a.key b.key && rise (b :: l)
theorem rise_at : ∀ {l : List Ce}, rise l = true → ∀ (i : Nat) (h : i + 1 < l.length), lt (l[i]'(by omega)).key l[i + 1].key = true
  | [], _, i, h => by simp at h
  | [_], _, i, h => by simp at h
  | a :: b :: l, hr, i, h => by
    simp only [rise, Bool.and_eq_true] at hr
    cases i with
    | zero => exact hr.1
    | succ i => exact rise_at hr.2 i (by simpa using h)
def right (leaf : Bool) (l : List Ce) : Bool := (leaf || (match l with | [] => false | c :: _ => c.key.size == 0)) && (l.all (rightOne leaf) && rise l)
/-- A cell's bytes. -/
def bytes (leaf : Bool) (c : Ce) : List UInt8 :=
  Be.low c.key.size 2 ++ c.key.data.toList ++
    (if leaf then (if 0 < c.over then 1 :: (Be.low c.over 4 ++ Be.low c.size 4) else 0 :: (Be.low c.val.size 2 ++ c.val.data.toList)) else Be.low c.child 4)
def tail (leaf : Bool) (l : List Ce) : List UInt8 := (l.map (bytes leaf)).flatten
/-- The slots of the first k cells. -/
def slots (leaf : Bool) (l : List Ce) (first : Nat) : Nat → List UInt8
  | 0 => []
  | k + 1 => slots leaf l first k ++ Be.low (first + (tail leaf (l.take k)).length) 2
def enc (leaf : Bool) (l : List Ce) : List UInt8 := Be.low l.length 2 ++ slots leaf l (2 + 2 * l.length) l.length ++ tail leaf l
theorem bytes_len (leaf : Bool) (c : Ce) : (bytes leaf c).length + 2 = size leaf c := by
  unfold bytes size
  have e : ∀ s : ByteArray, s.data.toList.length = s.size := fun _ => rfl
  cases leaf
  · simp only [List.length_append, Be.low_len, e, Bool.false_eq_true, if_false]
    omega
  · simp only [if_true]
    split
    · simp only [List.length_append, List.length_cons, Be.low_len, e]
      omega
    · simp only [List.length_append, List.length_cons, Be.low_len, e]
      omega
theorem tail_cons (leaf : Bool) (c : Ce) (l : List Ce) : tail leaf (c :: l) = bytes leaf c ++ tail leaf l := by simp [tail]
theorem tail_app (leaf : Bool) (a b : List Ce) : tail leaf (a ++ b) = tail leaf a ++ tail leaf b := by simp [tail]
theorem tail_len (leaf : Bool) : ∀ l : List Ce, (tail leaf l).length + 2 * l.length = (l.map (size leaf)).sum
  | [] => by simp [tail]
  | c :: l => by
    have h := tail_len leaf l
    have h2 := bytes_len leaf c
    rw [tail_cons, List.length_append, List.map_cons, List.sum_cons, List.length_cons]
    omega
theorem slots_len (leaf : Bool) (l : List Ce) (first : Nat) : ∀ k, (slots leaf l first k).length = 2 * k
  | 0 => rfl
  | k + 1 => by rw [slots, List.length_append, slots_len leaf l first k, Be.low_len]; omega
theorem enc_len (leaf : Bool) (l : List Ce) : (enc leaf l).length = sum leaf l := by
  have h := tail_len leaf l
  unfold enc sum
  rw [List.length_append, List.length_append, Be.low_len, slots_len]
  omega
theorem size_le {leaf : Bool} {c : Ce} (h : rightOne leaf c = true) : 8 ≤ size leaf c ∧ size leaf c ≤ 223 := by
  unfold rightOne at h
  unfold size
  cases leaf
  · simp only [Bool.false_eq_true, if_false, rightBranch, Bool.and_eq_true, decide_eq_true_eq] at h ⊢
    omega
  · simp only [if_true, rightLeaf, Bool.and_eq_true, decide_eq_true_eq] at h ⊢
    obtain ⟨⟨⟨h1, h2⟩, h3⟩, h4⟩ := h
    split
    · next ho => rw [if_neg (by omega)] at h4; simp at h4; omega
    · next ho => rw [if_pos (by omega)] at h4; simp at h4; omega
/-- The slot of the i-th cell tells where it stands. -/
theorem slots_get (leaf : Bool) (l : List Ce) (first : Nat) : ∀ (k i : Nat), i < k → ((slots leaf l first k).drop (2 * i)).take 2 = Be.low (first + (tail leaf (l.take i)).length) 2
  | k + 1, i, h => by
    rw [slots]
    have hl := slots_len leaf l first k
    by_cases hi : i < k
    · rw [List.drop_append_of_le_length (by omega), List.take_append_of_le_length (by rw [List.length_drop]; omega)]
      exact slots_get leaf l first k i hi
    · obtain rfl : i = k := by omega
      rw [List.drop_append, List.drop_of_length_le (by omega), hl, List.nil_append, Nat.sub_self, List.drop_zero, List.take_of_length_le (by rw [Be.low_len]; omega)]
end Nd
end Go.Proofs.Ytllafbcnikoohaa

import Derived.Test.YtjbcbnemdhbhbaaGreatDoorG1
import Derived.Test.YtjbcbnemdhbhbaaGreatDoorChecked
import Derived.WalkKit
import Derived.WalkSpells
import Derived.WalkLawsBesides
import Derived.RegionTactic
import Derived.Lib.Hide
import Derived.Lib.Builder
import Derived.Lib.AppendStr
import Derived.Lib.UnsafeStr
import Derived.Lib.Slices
import Derived.Lib.Strings
import Derived.Laws.Externs
import Derived.Outline
import Derived.Lib.FrozenHead
import Derived.Lib.MakeNoZero
import Derived.Laws.BitsAllLaws
import Derived.Deep.CutBlock
namespace Go.Proofs.YtjbcbnemdhbhbaaGreatDoor
structure Rw where
 A : Option Addr
 n : Nat
 c : Nat
def Rw.val (r : Rw) : Value := .slice r.A r.n r.c
def Rw.none : Rw := ⟨Option.none, 0, 0⟩
end Go.Proofs.YtjbcbnemdhbhbaaGreatDoor
namespace Go.Proofs.YtjbcbnemdhbhbaaGreatDoor
open Go.RowKit
set_option linter.unusedVariables false
def Stable {α : Type} (At : World → (Nat → Prop) → α → List Value → Prop) : Prop :=
 ∀ {w w' : World} {S T : Nat → Prop}, w.heap.size ≤ w'.heap.size → (∀ b, S b → b < w.heap.size → w'.heap[b]? = w.heap[b]?) → (∀ b, S b → b < w.heap.size → T b) → ∀ d c, At w S d c → At w' T d c
def RowOf {α : Type} (k : Nat) (At : World → (Nat → Prop) → α → List Value → Prop) (w : World) (S : Nat → Prop) (r : Rw) (ds : List α) : Prop :=
 r.n = ds.length ∧ r.n ≤ r.c ∧ r.c ≤ maxLen ∧ ∀ (i : Nat) (d : α), ds[i]? = some d → ∃ (b o : Nat) (c : List Value), r.A = some ⟨b, o, none⟩ ∧ (S b ∧ b < w.heap.size) ∧ c.length = k ∧
   (∀ (j : Nat) (u : Value), c[j]? = some u → w.cell? ⟨b, o + i * k + j, none⟩ = some u) ∧ At w S d c
theorem RowOf.nil {α : Type} {k : Nat} {At : World → (Nat → Prop) → α → List Value → Prop} (w : World) (S : Nat → Prop) : RowOf k At w S Rw.none [] :=
 ⟨rfl, Nat.le_refl _, Nat.zero_le _, fun i d h => by simp at h⟩
theorem RowOf.keep {α : Type} {k : Nat} {At : World → (Nat → Prop) → α → List Value → Prop} (hA : Stable At) {w w' : World} {S T : Nat → Prop} {r : Rw} {ds : List α} (h : RowOf k At w S r ds)
   (hs : w.heap.size ≤ w'.heap.size) (hk : ∀ b, S b → b < w.heap.size → w'.heap[b]? = w.heap[b]?) (hT : ∀ b, S b → b < w.heap.size → T b) : RowOf k At w' T r ds := by
 obtain ⟨h1, h2, h3, h4⟩ := h
 refine ⟨h1, h2, h3, fun i d hd => ?_⟩
 obtain ⟨b, o, c, q1, q2, q3, q4, q5⟩ := h4 i d hd
 refine ⟨b, o, c, q1, ⟨hT b q2.1 q2.2, Nat.lt_of_lt_of_le q2.2 hs⟩, q3, fun j u hu => ?_, hA hs hk hT d c q5⟩
 exact (World.cell?_of_block (a := ⟨b, o + i * k + j, none⟩) (hk b q2.1 q2.2)).trans (q4 j u hu)
theorem flatten_get {k : Nat} : ∀ (css : List (List Value)), (∀ c ∈ css, c.length = k) → ∀ (i : Nat) (c : List Value), css[i]? = some c → ∀ j, j < k → css.flatten[i * k + j]? = c[j]?
 | [], _, i, c, h, _, _ => by simp at h
 | x :: css, hl, i, c, h, j, hj => by
   have hx : x.length = k := hl x (by simp)
   cases i with
   | zero =>
     obtain rfl : x = c := by simpa using h
     rw [Nat.zero_mul, Nat.zero_add, List.flatten_cons, List.getElem?_append_left (by omega)]
   | succ i =>
     have := flatten_get css (fun c hc => hl c (by simp [hc])) i c (by simpa using h) j hj
     rw [List.flatten_cons, List.getElem?_append_right (by rw [hx, Nat.add_mul]; omega), ← this]
     congr 1
     rw [hx, Nat.add_mul]
     omega
def GRow {α : Type} (E : TypeId) (k : Nat) (At : World → (Nat → Prop) → α → List Value → Prop) (w : World) (B : Nat) (v : Value) (ds : List α) : Prop :=
 ∃ css : List (List Value), css.length = ds.length ∧ (∀ c ∈ css, c.length = k) ∧ w.ownsRow B E k v ds.length css.flatten ∧
   ∀ (i : Nat) (d : α) (c : List Value), ds[i]? = some d → css[i]? = some c → At w (fun b => B ≤ b ∧ v.ownBlock ≠ some b) d c
section
variable {α : Type} {E : TypeId} {k : Nat} {At : World → (Nat → Prop) → α → List Value → Prop}
theorem GRow.nil (w : World) (B : Nat) : GRow E k At w B (.slice none 0 0) [] := ⟨[], rfl, fun c h => by simp at h, World.ownsRow_nil _ _ _ _, fun i d c h => by simp at h⟩
theorem GRow.keep (hA : Stable At) {w w' : World} {B : Nat} {v : Value} {ds : List α} (h : GRow E k At w B v ds) (hs : w.heap.size ≤ w'.heap.size) (hk : ∀ b, B ≤ b → b < w.heap.size → w'.heap[b]? = w.heap[b]?) : GRow E k At w' B v ds := by
 obtain ⟨css, h1, h2, h3, h4⟩ := h
 refine ⟨css, h1, h2, ?_, fun i d c hd hc => hA hs (fun b hb hlt => hk b hb.1 hlt) (fun _ h _ => h) d c (h4 i d c hd hc)⟩
 obtain ⟨a1, a2⟩ := h3
 refine ⟨a1, ?_⟩
 rcases a2 with a2 | ⟨g, cap, cur, rfl, hb, hh, r⟩
 · exact Or.inl a2
 · exact Or.inr ⟨g, cap, cur, rfl, hb, (hk g hb (lt_of_block hh)).trans hh, r⟩
theorem GRow.off (hA : Stable At) {w w' : World} {B : Nat} {v : Value} {ds : List α} {S : List Nat} (h : GRow E k At w B v ds) (ho : Off S w w') (hS : ∀ g ∈ S, g < B) : GRow E k At w' B v ds :=
 h.keep hA ho.size (fun b hb hlt => ho.block b hlt (fun hm => by have := hS b hm; omega))
theorem GRow.below (hA : Stable At) {w w' : World} {B : Nat} {v : Value} {ds : List α} (h : GRow E k At w B v ds) (hb : Below w.heap.size w w') : GRow E k At w' B v ds :=
 h.keep hA hb.size (fun b _ hlt => hb.block b hlt)
theorem GRow.lt {w : World} {B : Nat} {v : Value} {ds : List α} (h : GRow E k At w B v ds) : ∀ g, v.ownBlock = some g → B ≤ g ∧ g < w.heap.size := by
 obtain ⟨css, _, _, h3, _⟩ := h
 exact h3.lt
theorem GRow.push (hA : Stable At) {w w1 w2 w3 : World} {B : Nat} {v v' : Value} {ds : List α} {d : α} {c : List Value} {css : List (List Value)} (hB : B ≤ w.heap.size)
   (hcl : css.length = ds.length) (hck : ∀ c ∈ css, c.length = k) (hown : w.ownsRow B E k v ds.length css.flatten)
   (hall : ∀ (i : Nat) (d : α) (c : List Value), ds[i]? = some d → css[i]? = some c → At w (fun b => B ≤ b ∧ v.ownBlock ≠ some b) d c)
   (h1 : ∀ b, B ≤ b → b < w.heap.size → w1.heap[b]? = w.heap[b]?) (hs1 : w.heap.size ≤ w1.heap.size) (hc : c.length = k) (ht : At w1 (fun b => w.heap.size ≤ b) d c) (h2 : Below w1.heap.size w1 w2)
   (hown3 : w3.ownsRow B E k v' (ds.length + 1) (css.flatten ++ c)) (hgr : w2.grownBy w3 v.ownBlock) (hat : v'.ownBlock = v.ownBlock ∨ v'.ownBlock = some w2.heap.size) :
   GRow E k At w3 B v' (ds ++ [d]) := by
 have s2 := h2.size
 have s3 := hgr.size
 have hvlt := hown.lt
 have hne : ∀ b, b < w2.heap.size → v.ownBlock ≠ some b → v'.ownBlock ≠ some b := by
   intro b hb hn e
   rcases hat with h | h
   · exact hn (h ▸ e)
   · rw [h] at e; injection e with e; omega
 refine ⟨css ++ [c], by simp [hcl], fun x hx => ?_, by rw [List.flatten_append, List.length_append]; simpa using hown3, fun i x y hx hy => ?_⟩
 · rcases List.mem_append.1 hx with hx | hx
   · exact hck x hx
   · rw [List.mem_singleton.1 hx]; exact hc
 · by_cases hlt : i < ds.length
   · rw [List.getElem?_append_left hlt] at hx
     rw [List.getElem?_append_left (by omega)] at hy
     refine hA (by omega) (fun b hb hbl => ?_) (fun b hb hbl => ⟨hb.1, hne b (by omega) hb.2⟩) _ _ (hall i x y hx hy)
     exact (hgr.block b (by omega) (fun e => hb.2 e.symm)).trans ((h2.block b (by omega)).trans (h1 b hb.1 hbl))
   · have hi : i < (ds ++ [d]).length := (List.getElem?_eq_some_iff.1 hx).1
     rw [List.length_append, List.length_singleton] at hi
     obtain rfl : i = ds.length := by omega
     obtain rfl : d = x := by simpa using hx
     rw [← hcl] at hy
     obtain rfl : c = y := by simpa using hy
     refine hA (by omega) (fun b hb hbl => ?_) (fun b hb hbl => ⟨by omega, hne b (by omega) (fun e => by have := (hvlt b e).2; omega)⟩) _ _ ht
     exact (hgr.block b (by omega) (fun e => by have := (hvlt b e.symm).2; omega)).trans (h2.block b hbl)
theorem GRow.row (hA : Stable At) {w : World} {B : Nat} {v : Value} {ds : List α} (h : GRow E k At w B v ds) : ∃ r : Rw, v = .slice r.A r.n r.c ∧ RowOf k At w (fun b => B ≤ b) r ds := by
 obtain ⟨css, h1, h2, h3, h4⟩ := h
 obtain ⟨hl, hr⟩ := h3
 rcases hr with ⟨rfl, hn⟩ | ⟨g, cap, cur, rfl, hb, hh, hc, hm, hcs, htk⟩
 · obtain rfl : ds = [] := List.eq_nil_of_length_eq_zero hn
   exact ⟨Rw.none, rfl, RowOf.nil _ _⟩
 · refine ⟨⟨some ⟨g, 0, none⟩, ds.length, cap⟩, rfl, rfl, by show ds.length ≤ cap; omega, hm, fun i d hd => ?_⟩
   have hi : i < ds.length := (List.getElem?_eq_some_iff.1 hd).1
   obtain ⟨c, hci⟩ : ∃ c, css[i]? = some c := ⟨css[i]'(by omega), List.getElem?_eq_getElem (by omega)⟩
   have hck := h2 c (List.mem_of_getElem? hci)
   refine ⟨g, 0, c, rfl, ⟨hb, lt_of_block hh⟩, hck, fun j u hu => ?_, hA (Nat.le_refl _) (fun _ _ _ => rfl) (fun _ h _ => h.1) _ _ (h4 i d c hd hci)⟩
   have hj : j < k := by rw [← hck]; exact (List.getElem?_eq_some_iff.1 hu).1
   rw [cell_of_row w g _ cur _ (0, 0) hh, Nat.zero_add]
   have hf := flatten_get css h2 i c hci j hj
   rw [hu] at hf
   have hlt : i * k + j < css.flatten.length := (List.getElem?_eq_some_iff.1 hf).1
   rw [← htk, List.getElem?_take_of_lt (by omega)] at hf
   rw [← Array.getElem?_toList]
   exact hf
end
structure Ce where
 key : ByteArray
 val : ByteArray
 over : Nat
 size : Nat
 child : Nat
def Ce.zero : Ce := ⟨⟨#[]⟩, ⟨#[]⟩, 0, 0, 0⟩
def Ce.vals (c : Ce) : List Value := [.string c.key, .string c.val, .int .i64 c.over, .int .i64 c.size, .int .i64 c.child]
def CeAt (w : World) (S : Nat → Prop) (c : Ce) (vs : List Value) : Prop := vs = c.vals
theorem ceAt_stable : Stable CeAt := fun _ _ _ d c h => h
def CRow (w : World) (S : Nat → Prop) (r : Rw) (l : List Ce) : Prop := RowOf 5 CeAt w S r l
namespace Nd
def size (leaf : Bool) (c : Ce) : Nat := if leaf then (if 0 < c.over then 4 + c.key.size + 9 else 4 + c.key.size + 3 + c.val.size) else 4 + c.key.size + 4
def sum (leaf : Bool) (l : List Ce) : Nat := 2 + (l.map (size leaf)).sum
def rightLeaf (c : Ce) : Bool := 0 < c.key.size && c.key.size ≤ 120 && c.child == 0 && (if c.over = 0 then c.size == 0 && c.val.size ≤ 96 else c.val.size == 0 && c.over < 512 && 96 < c.size && c.size ≤ 4000)
def rightBranch (c : Ce) : Bool := c.key.size ≤ 120 && 1 ≤ c.child && c.child < 512 && c.val.size == 0 && c.over == 0 && c.size == 0
def rightOne (leaf : Bool) (c : Ce) : Bool := if leaf then rightLeaf c else rightBranch c
theorem less_irrefl : ∀ a : List UInt8, Op.bytesLess a a = false
 | [] => rfl
 | a :: l => by simp [Op.bytesLess, less_irrefl l]
theorem less_trans : ∀ {a b c : List UInt8}, Op.bytesLess a b = true → Op.bytesLess b c = true → Op.bytesLess a c = true
 | _, [], _, h, _ => by cases ‹List UInt8› <;> simp [Op.bytesLess] at h
 | _, _ :: _, [], _, h => by simp [Op.bytesLess] at h
 | [], _ :: _, _ :: _, _, _ => rfl
 | x :: a, y :: b, z :: c, h1, h2 => by
   simp only [Op.bytesLess, Bool.or_eq_true, Bool.and_eq_true, decide_eq_true_eq, beq_iff_eq] at h1 h2 ⊢
   rcases h1 with h1 | ⟨rfl, h1⟩
   · rcases h2 with h2 | ⟨rfl, h2⟩
     · exact .inl (UInt8.lt_trans h1 h2)
     · exact .inl h1
   · rcases h2 with h2 | ⟨rfl, h2⟩
     · exact .inl h2
     · exact .inr ⟨rfl, less_trans h1 h2⟩
theorem less_total : ∀ (a b : List UInt8), Op.bytesLess a b = true ∨ a = b ∨ Op.bytesLess b a = true
 | [], [] => .inr (.inl rfl)
 | [], _ :: _ => .inl rfl
 | _ :: _, [] => .inr (.inr rfl)
 | x :: a, y :: b => by
   simp only [Op.bytesLess, Bool.or_eq_true, Bool.and_eq_true, decide_eq_true_eq, beq_iff_eq, List.cons.injEq]
   rcases less_total a b with h | h | h <;> by_cases e : x = y
   · exact .inl (.inr ⟨e, h⟩)
   · rcases UInt8.lt_or_lt_of_ne e with h1 | h1
     · exact .inl (.inl h1)
     · exact .inr (.inr (.inl h1))
   · exact .inr (.inl ⟨e, h⟩)
   · rcases UInt8.lt_or_lt_of_ne e with h1 | h1
     · exact .inl (.inl h1)
     · exact .inr (.inr (.inl h1))
   · exact .inr (.inr (.inr ⟨e.symm, h⟩))
   · rcases UInt8.lt_or_lt_of_ne e with h1 | h1
     · exact .inl (.inl h1)
     · exact .inr (.inr (.inl h1))
def lt (a b : ByteArray) : Bool := Op.bytesLess a.toList b.toList
theorem str_ext {a b : ByteArray} (h : a.toList = b.toList) : a = b := by
 rw [ByteArray.toList_eq, ByteArray.toList_eq] at h
 obtain ⟨⟨a⟩⟩ := a
 obtain ⟨⟨b⟩⟩ := b
 simp only at h
 subst h
 rfl
theorem lt_irrefl (a : ByteArray) : lt a a = false := less_irrefl _
theorem lt_trans {a b c : ByteArray} (h1 : lt a b = true) (h2 : lt b c = true) : lt a c = true := less_trans h1 h2
theorem lt_asymm {a b : ByteArray} (h : lt a b = true) : lt b a = false := by
 cases h2 : lt b a with
 | false => rfl
 | true => have := lt_trans h h2; rw [lt_irrefl] at this; cases this
theorem lt_total (a b : ByteArray) : lt a b = true ∨ a = b ∨ lt b a = true := by
 rcases less_total a.toList b.toList with h | h | h
 · exact .inl h
 · exact .inr (.inl (str_ext h))
 · exact .inr (.inr h)
theorem lt_ne {a b : ByteArray} (h : lt a b = true) : (a.toList == b.toList) = false ∧ (b.toList == a.toList) = false := by
 constructor
 · rw [beq_eq_false_iff_ne]; intro e; rw [str_ext e, lt_irrefl] at h; cases h
 · rw [beq_eq_false_iff_ne]; intro e; rw [str_ext e, lt_irrefl] at h; cases h
def rise : List Ce → Bool
 | [] => true
 | [_] => true
 | a :: b :: l => lt a.key b.key && rise (b :: l)
theorem rise_at : ∀ {l : List Ce}, rise l = true → ∀ (i : Nat) (h : i + 1 < l.length), lt (l[i]'(by omega)).key l[i + 1].key = true
 | [], _, i, h => by simp at h
 | [_], _, i, h => by simp at h
 | a :: b :: l, hr, i, h => by
   simp only [rise, Bool.and_eq_true] at hr
   cases i with
   | zero => exact hr.1
   | succ i => exact rise_at hr.2 i (by simpa using h)
def right (leaf : Bool) (l : List Ce) : Bool := (leaf || (match l with | [] => false | c :: _ => c.key.size == 0)) && (l.all (rightOne leaf) && rise l)
def bytes (leaf : Bool) (c : Ce) : List UInt8 :=
 Be.low c.key.size 2 ++ c.key.data.toList ++
   (if leaf then (if 0 < c.over then 1 :: (Be.low c.over 4 ++ Be.low c.size 4) else 0 :: (Be.low c.val.size 2 ++ c.val.data.toList)) else Be.low c.child 4)
def tail (leaf : Bool) (l : List Ce) : List UInt8 := (l.map (bytes leaf)).flatten
def slots (leaf : Bool) (l : List Ce) (first : Nat) : Nat → List UInt8
 | 0 => []
 | k + 1 => slots leaf l first k ++ Be.low (first + (tail leaf (l.take k)).length) 2
def enc (leaf : Bool) (l : List Ce) : List UInt8 := Be.low l.length 2 ++ slots leaf l (2 + 2 * l.length) l.length ++ tail leaf l
theorem bytes_len (leaf : Bool) (c : Ce) : (bytes leaf c).length + 2 = size leaf c := by
 unfold bytes size
 have e : ∀ s : ByteArray, s.data.toList.length = s.size := fun _ => rfl
 cases leaf
 · simp only [List.length_append, Be.low_len, e, Bool.false_eq_true, if_false]
   omega
 · simp only [if_true]
   split
   · simp only [List.length_append, List.length_cons, Be.low_len, e]
     omega
   · simp only [List.length_append, List.length_cons, Be.low_len, e]
     omega
theorem tail_cons (leaf : Bool) (c : Ce) (l : List Ce) : tail leaf (c :: l) = bytes leaf c ++ tail leaf l := by simp [tail]
theorem tail_app (leaf : Bool) (a b : List Ce) : tail leaf (a ++ b) = tail leaf a ++ tail leaf b := by simp [tail]
theorem tail_len (leaf : Bool) : ∀ l : List Ce, (tail leaf l).length + 2 * l.length = (l.map (size leaf)).sum
 | [] => by simp [tail]
 | c :: l => by
   have h := tail_len leaf l
   have h2 := bytes_len leaf c
   rw [tail_cons, List.length_append, List.map_cons, List.sum_cons, List.length_cons]
   omega
theorem slots_len (leaf : Bool) (l : List Ce) (first : Nat) : ∀ k, (slots leaf l first k).length = 2 * k
 | 0 => rfl
 | k + 1 => by rw [slots, List.length_append, slots_len leaf l first k, Be.low_len]; omega
theorem enc_len (leaf : Bool) (l : List Ce) : (enc leaf l).length = sum leaf l := by
 have h := tail_len leaf l
 unfold enc sum
 rw [List.length_append, List.length_append, Be.low_len, slots_len]
 omega
theorem size_le {leaf : Bool} {c : Ce} (h : rightOne leaf c = true) : 8 ≤ size leaf c ∧ size leaf c ≤ 223 := by
 unfold rightOne at h
 unfold size
 cases leaf
 · simp only [Bool.false_eq_true, if_false, rightBranch, Bool.and_eq_true, decide_eq_true_eq] at h ⊢
   omega
 · simp only [if_true, rightLeaf, Bool.and_eq_true, decide_eq_true_eq] at h ⊢
   obtain ⟨⟨⟨h1, h2⟩, h3⟩, h4⟩ := h
   split
   · next ho => rw [if_neg (by omega)] at h4; simp at h4; omega
   · next ho => rw [if_pos (by omega)] at h4; simp at h4; omega
theorem slots_get (leaf : Bool) (l : List Ce) (first : Nat) : ∀ (k i : Nat), i < k → ((slots leaf l first k).drop (2 * i)).take 2 = Be.low (first + (tail leaf (l.take i)).length) 2
 | k + 1, i, h => by
   rw [slots]
   have hl := slots_len leaf l first k
   by_cases hi : i < k
   · rw [List.drop_append_of_le_length (by omega), List.take_append_of_le_length (by rw [List.length_drop]; omega)]
     exact slots_get leaf l first k i hi
   · obtain rfl : i = k := by omega
     rw [List.drop_append, List.drop_of_length_le (by omega), hl, List.nil_append, Nat.sub_self, List.drop_zero, List.take_of_length_le (by rw [Be.low_len]; omega)]
end Nd
theorem sb_size : (Tryz.prog.info? 300).map (·.size) = some 2 := by kernel_rfl
theorem sb_lies : liesAt Tryz.prog Tryz.prog.depth 300 (2 / Tryz.prog.cellsOf 300) 0 300 1 = true := by kernel_rfl
theorem sb_info : (Tryz.prog.info? 5).map (fun i => (i.zero, i.size, i.bytes)) = some (some (.int .u8 0), 1, 1) := by kernel_rfl
theorem sb_cells : Tryz.prog.cellsOf 5 = 1 := by kernel_rfl
theorem sb_ne : (300 : TypeId) ≠ 5 := by decide
def SB (B b : Nat) (l : List UInt8) (w : World) : Prop := Lib.IsBuilder 300 5 B b (Lib.byteCells l) w
set_option maxHeartbeats 1000000 in
set_option maxRecDepth 100000 in
theorem sb_check_used (b : Nat) (w : World) (h0 : w.cell? ⟨b, 0, none⟩ = some (.pointer (some ⟨b, 0, none⟩))) :
   Calls Tryz.prog 244 #[.pointer (some ⟨b, 0, none⟩)] w fun e w' => e = .returned (.tuple #[]) ∧ w' = w := by
 obtain ⟨j, hj, _⟩ := Option.map_eq_some_iff.1 sb_size
 go_enter Tryz.func244, Tryz.ntmps244
 go_wp2
 rw [Lib.run_neq_ptr_same w _ Tryz.underlying298 hj]
 go_wp2
 go_end0
 exact ⟨rfl, rfl⟩
set_option maxHeartbeats 1000000 in
set_option maxRecDepth 100000 in
theorem sb_check_fresh (b : Nat) (w : World) (h0 : w.cell? ⟨b, 0, none⟩ = some (.pointer none)) (hsh : w.shape? b = some (300, 2)) (hfz : w.frozen? ⟨b, 0, none⟩ = false) :
   Calls Tryz.prog 244 #[.pointer (some ⟨b, 0, none⟩)] w fun e w' => e = .returned (.tuple #[]) ∧ w' = w.setCell ⟨b, 0, none⟩ (.pointer (some ⟨b, 0, none⟩)) := by
 obtain ⟨j, hj, hjs⟩ := Option.map_eq_some_iff.1 sb_size
 go_enter Tryz.func244, Tryz.ntmps244
 go_wp2
 rw [Lib.run_to_unsafe w ⟨b, 0, none⟩ Tryz.underlying298 Tryz.underlying357 hj (by rw [hjs]; decide) hsh (Nat.zero_lt_succ 1)]
 simp only [Result.andThen]
 rw [Oper.upon_value]
 go_wp2
 rw [run_callFunc_extern Tryz.func263 (by kernel_rfl) (by kernel_rfl) (by kernel_rfl) (e := Extern.AbiNoEscape.same) (by kernel_rfl)]
 rw [Lib.run_noEscape]
 simp only [Result.andThen]
 rw [Oper.upon_value]
 go_wp2
 rw [Lib.run_from_unsafe w ⟨b, 0, none⟩ Tryz.underlying357 Tryz.underlying298 hj hsh sb_lies]
 simp only [Result.andThen]
 rw [Oper.upon_value]
 go_wp2
 go_end0
 exact ⟨rfl, rfl⟩
theorem sb_check (B b : Nat) (bs : List Value) (w : World) (h : Lib.IsBuilder 300 5 B b bs w) :
   Calls Tryz.prog 244 #[.pointer (some ⟨b, 0, none⟩)] w fun e w' => e = .returned (.tuple #[]) ∧ (Lib.BuilderAt 300 5 B b (.pointer (some ⟨b, 0, none⟩)) bs w' ∧ Below B w w') := by
 rcases h with h | h
 · refine (sb_check_fresh b w h.cell0 h.shape h.frozen0).mono ?_
   rintro e w' ⟨rfl, rfl⟩
   exact ⟨rfl, h.used _, (Below.refl B w).setCell (p := ⟨b, 0, none⟩) h.1 _⟩
 · refine (sb_check_used b w h.cell0).mono ?_
   rintro e w' ⟨rfl, rfl⟩
   exact ⟨rfl, h, Below.refl B _⟩
set_option maxHeartbeats 2000000 in
set_option maxRecDepth 100000 in
theorem sb_write (B b : Nat) (l : List UInt8) (s : ByteArray) (w : World) (h : SB B b l w) (hlen : l.length + s.size ≤ 140737488355328) (hBw : B ≤ w.heap.size) :
   Calls Tryz.prog 204 #[.pointer (some ⟨b, 0, none⟩), .string s] w fun e w' => e = .returned (.tuple #[.int .i64 s.size, .nilIface]) ∧ (SB B b (l ++ s.data.toList) w' ∧ Below B w w') := by
 obtain ⟨i0, hi, hz0, hz1, hz2⟩ := info_parts sb_info
 have HC := Lib.hid (sb_check B b _ w h)
 have hl := Lib.byteCells_length l
 go_enter Tryz.func204, Tryz.ntmps204
 go_wp2_with (go_at_call 244; refine HC.out.mono ?_)
 rintro e w1 ⟨rfl, h1, hb1⟩
 obtain ⟨hB, v, hbk, hown, hne⟩ := h1
 have c0 : w1.cell? ⟨b, 0, none⟩ = some (.pointer (some ⟨b, 0, none⟩)) := by rw [Lib.cell_of_heap hbk]; rfl
 have c1 : w1.cell? ⟨b, 1, none⟩ = some v := by rw [Lib.cell_of_heap hbk]; rfl
 go_wp2_with (at_builtin; refine Lib.wpList_append_own_string _ rfl _ _ 36 9 rfl B 5 i0 Tryz.underlying36 Tryz.underlying9 hi hz0 hz1 hz2 _ _ _ rfl hown s rfl ?c3 ?c4 ?c5 ?_)
 case c3 => unfold maxLen; omega
 case c4 => omega
 case c5 => have := hb1.size; omega
 intro v' w2 hown' hgrow _
 have hlt : b < w1.heap.size := by
   rcases Nat.lt_or_ge b w1.heap.size with h' | h'
   · exact h'
   · simp [Array.getElem?_eq_none h'] at hbk
 have hb2 : w2.heap[b]? = some (.cells #[.pointer (some ⟨b, 0, none⟩), v] 300 (0, 0)) := by
   rw [hgrow.block b hlt (fun e => hne e.symm)]
   exact hbk
 have d0 : w2.cell? ⟨b, 0, none⟩ = some (.pointer (some ⟨b, 0, none⟩)) := by rw [Lib.cell_of_heap hb2]; rfl
 have d1 : w2.cell? ⟨b, 1, none⟩ = some v := by rw [Lib.cell_of_heap hb2]; rfl
 have f1 : w2.frozen? ⟨b, 1, none⟩ = false := Lib.frozen_of_heap hb2 1
 obtain ⟨ao, n', cap, rfl⟩ : ∃ ao n' cap, v' = .slice ao n' cap := by
   rcases hown'.2 with ⟨hv, _⟩ | ⟨g, cap, cur, hv, _⟩
   · exact ⟨_, _, _, hv⟩
   · exact ⟨_, _, _, hv⟩
 go_wp2
 go_ret2
 refine ⟨rfl, ?_, ?_⟩
 · refine Or.inr ?_
   have e : Lib.byteCells (l ++ s.data.toList) = Lib.byteCells l ++ Lib.strCells s := by simp [Lib.byteCells, Lib.strCells]
   rw [e]
   exact Lib.BuilderAt.put (T := 300) (e := 5) hB hb2 (by simpa [Lib.strCells_length, Lib.byteCells_length] using hown') sb_ne
 · exact (hb1.grown hgrow (by have := hb1.size; omega) (fun k hk => (hown.lt k hk).1)).setCell (p := ⟨b, 1, none⟩) hB _
set_option maxHeartbeats 1000000 in
set_option maxRecDepth 100000 in
theorem sb_string_some (B b : Nat) (l : List UInt8) (w : World) (h : SB B b l w) (h0 : l ≠ []) :
   Calls Tryz.prog 207 #[.pointer (some ⟨b, 0, none⟩)] w fun e w' => e = .returned (.string ⟨l.toArray⟩) ∧ Below B w w' := by
 obtain ⟨p, hB, v, hbk, hown, hne⟩ : ∃ p, Lib.BuilderAt 300 5 B b p (Lib.byteCells l) w := by
   rcases h with h | h
   · exact ⟨_, h⟩
   · exact ⟨_, h⟩
 have hl0 : l.length ≠ 0 := by simpa using h0
 rw [Lib.byteCells_length] at hown
 obtain ⟨g, cap, cur, rfl, hbg, hg, hnc, hcm, hcs, htake⟩ : ∃ g cap cur, v = .slice (some ⟨g, 0, none⟩) l.length cap ∧ B ≤ g ∧ w.heap[g]? = some (.cells cur 5 (0, 0)) ∧ l.length ≤ cap ∧ cap ≤ maxLen ∧ cur.size = cap * 1 ∧ cur.toList.take (l.length * 1) = Lib.byteCells l := by
   rcases hown.2 with ⟨_, hz⟩ | ⟨g, cap, cur, hv, r⟩
   · exact absurd hz hl0
   · exact ⟨g, cap, cur, hv, r⟩
 have c1 : w.drew.cell? ⟨b, 1, none⟩ = some (.slice (some ⟨g, 0, none⟩) l.length cap) := by
   have : w.drew.heap[b]? = some (.cells #[p, .slice (some ⟨g, 0, none⟩) l.length cap] 300 (0, 0)) := hbk
   rw [Lib.cell_of_heap this]; rfl
 have hSD : (Builtin.unsafeSliceData_ #[36] 342 #[.slice (some ⟨g, 0, none⟩) l.length cap]).run Tryz.prog w.drew = .ok (.pointer (some ⟨g, 0, none⟩)) w.drew :=
   Lib.run_unsafeSliceData_row _ _ _ _ _ _ (by omega)
 have hUS : (Builtin.unsafeString_ #[342, 3] 9 #[.pointer (some ⟨g, 0, none⟩), .int .i64 l.length]).run Tryz.prog w.drew = .ok (.string ⟨l.toArray⟩) (w.drew.freeze ⟨g, 0, none⟩ l.length) := by
   refine Lib.run_unsafeString_row w.drew 342 3 9 5 Tryz.underlying342 sb_cells g cur.size (by have hg' : w.drew.heap[g]? = some (.cells cur 5 (0, 0)) := hg; simp [World.shape?, hg']) l h0 (by omega) (by unfold maxLen at hcm; omega) ?_
   intro j x hx
   have := hown.cells (g := g) rfl j (.int .u8 x.toNat) (by simp [Lib.byteCells, hx])
   exact this
 clear h htake hcs hcm hnc hl0 hown hne
 go_enter Tryz.func207, Tryz.ntmps207
 go_wp2
 go_region
 all_goals (go_wp2; go_ret; exact ⟨rfl, Lib.below_freeze (Below.drew (Below.refl B w)) (p := ⟨g, 0, none⟩) hbg _⟩)
theorem sb_us_none (W : World) (q : Option Addr) : (Builtin.unsafeString_ #[342, 3] 9 #[.pointer q, .int .i64 0]).run Tryz.prog W = .ok (.string .empty) W :=
 Lib.run_unsafeString_none W _ _ _ q
set_option maxHeartbeats 2000000 in
set_option maxRecDepth 100000 in
theorem sb_string_nil (B b : Nat) (p : Value) (w : World) (hbk : w.heap[b]? = some (.cells #[p, .slice none 0 0] 300 (0, 0))) :
   Calls Tryz.prog 207 #[.pointer (some ⟨b, 0, none⟩)] w fun e w' => e = .returned (.string ⟨#[]⟩) ∧ Below B w w' := by
 have hUS := sb_us_none
 have c1 : w.drew.cell? ⟨b, 1, none⟩ = some (.slice none 0 0) := by
   have : w.drew.heap[b]? = some (.cells #[p, .slice none 0 0] 300 (0, 0)) := hbk
   rw [Lib.cell_of_heap this]; rfl
 have hSD : (Builtin.unsafeSliceData_ #[36] 342 #[.slice none 0 0]).run Tryz.prog w.drew = .ok (.pointer none) w.drew := rfl
 clear hbk
 go_enter Tryz.func207, Tryz.ntmps207
 go_wp2
 go_region
 all_goals (go_wp2; go_ret; exact ⟨rfl, Below.drew (Below.refl B w)⟩)
set_option maxHeartbeats 2000000 in
set_option maxRecDepth 100000 in
theorem sb_string_noroom (B b g : Nat) (p : Value) (cur : Array Value) (w : World) (hBw : B ≤ w.heap.size) (hbk : w.heap[b]? = some (.cells #[p, .slice (some ⟨g, 0, none⟩) 0 0] 300 (0, 0))) (hg : w.heap[g]? = some (.cells cur 5 (0, 0))) :
   Calls Tryz.prog 207 #[.pointer (some ⟨b, 0, none⟩)] w fun e w' => e = .returned (.string ⟨#[]⟩) ∧ Below B w w' := by
 have hUS := sb_us_none
 have hlt : b < w.heap.size := by
   rcases Nat.lt_or_ge b w.heap.size with h' | h'
   · exact h'
   · simp [Array.getElem?_eq_none h'] at hbk
 have c1 : w.drew.cell? ⟨b, 1, none⟩ = some (.slice (some ⟨g, 0, none⟩) 0 0) := by
   have : w.drew.heap[b]? = some (.cells #[p, .slice (some ⟨g, 0, none⟩) 0 0] 300 (0, 0)) := hbk
   rw [Lib.cell_of_heap this]; rfl
 have hSD : (Builtin.unsafeSliceData_ #[36] 342 #[.slice (some ⟨g, 0, none⟩) 0 0]).run Tryz.prog w.drew = .ok (.pointer (some ⟨w.drew.heap.size, 0, none⟩)) (w.drew.alloc (.view ⟨g, 0, none⟩ 5)) :=
   Lib.run_unsafeSliceData_zero w.drew _ _ 5 Tryz.underlying342 ⟨g, 0, none⟩ 0 (5, cur.size) (by have hg' : w.drew.heap[g]? = some (.cells cur 5 (0, 0)) := hg; simp [World.shape?, hg'])
 have c2 : (w.drew.alloc (.view ⟨g, 0, none⟩ 5)).cell? ⟨b, 1, none⟩ = some (.slice (some ⟨g, 0, none⟩) 0 0) := by
   have : (w.drew.alloc (.view ⟨g, 0, none⟩ 5)).heap[b]? = _ := (Lib.alloc_old w.drew _ b hlt).trans hbk
   rw [Lib.cell_of_heap this]; rfl
 have c3 : (w.alloc (.view ⟨g, 0, none⟩ 5)).drew.cell? ⟨b, 1, none⟩ = some (.slice (some ⟨g, 0, none⟩) 0 0) := c2
 have c0 : w.cell? ⟨b, 1, none⟩ = some (.slice (some ⟨g, 0, none⟩) 0 0) := c1
 clear hbk hg hlt
 go_enter Tryz.func207, Tryz.ntmps207
 go_wp2
 go_region
 all_goals (go_wp2; go_ret; exact ⟨rfl, (Below.drew (Below.refl B w)).alloc hBw _⟩)
set_option maxHeartbeats 2000000 in
set_option maxRecDepth 100000 in
theorem sb_string_room (B b g cap : Nat) (p : Value) (w : World) (hc0 : cap ≠ 0) (hbk : w.heap[b]? = some (.cells #[p, .slice (some ⟨g, 0, none⟩) 0 cap] 300 (0, 0))) :
   Calls Tryz.prog 207 #[.pointer (some ⟨b, 0, none⟩)] w fun e w' => e = .returned (.string ⟨#[]⟩) ∧ Below B w w' := by
 have hUS := sb_us_none
 have c1 : w.drew.cell? ⟨b, 1, none⟩ = some (.slice (some ⟨g, 0, none⟩) 0 cap) := by
   have : w.drew.heap[b]? = some (.cells #[p, .slice (some ⟨g, 0, none⟩) 0 cap] 300 (0, 0)) := hbk
   rw [Lib.cell_of_heap this]; rfl
 have hSD : (Builtin.unsafeSliceData_ #[36] 342 #[.slice (some ⟨g, 0, none⟩) 0 cap]).run Tryz.prog w.drew = .ok (.pointer (some ⟨g, 0, none⟩)) w.drew :=
   Lib.run_unsafeSliceData_row _ _ _ _ _ _ hc0
 clear hc0 hbk
 go_enter Tryz.func207, Tryz.ntmps207
 go_wp2
 go_region
 all_goals (go_wp2; go_ret; exact ⟨rfl, Below.drew (Below.refl B w)⟩)
theorem sb_string (B b : Nat) (l : List UInt8) (w : World) (h : SB B b l w) (hBw : B ≤ w.heap.size) :
   Calls Tryz.prog 207 #[.pointer (some ⟨b, 0, none⟩)] w fun e w' => e = .returned (.string ⟨l.toArray⟩) ∧ Below B w w' := by
 cases l with
 | cons x r => exact sb_string_some B b (x :: r) w h (by simp)
 | nil =>
   obtain ⟨p, hB, v, hbk, hown, hne⟩ : ∃ p, Lib.BuilderAt 300 5 B b p [] w := by
     rcases h with h | h
     · exact ⟨_, h⟩
     · exact ⟨_, h⟩
   rcases hown.2 with ⟨rfl, _⟩ | ⟨g, cap, cur, rfl, hbg, hg, _, _, _, _⟩
   · exact sb_string_nil B b p w hbk
   · by_cases hc0 : cap = 0
     · subst hc0
       exact sb_string_noroom B b g p cur w hBw hbk hg
     · exact sb_string_room B b g cap p w hc0 hbk
theorem sb_new (w : World) : SB w.heap.size w.heap.size [] (w.alloc (.cells #[.pointer none, .slice none 0 0] 300)) :=
 Or.inl ⟨Nat.le_refl _, .slice none 0 0, heap_alloc_new w _, World.ownsRow_nil _ _ _ _, by simp [Value.ownBlock]⟩
theorem SB.below {B b : Nat} {l : List UInt8} {w w' : World} (h : SB B b l w) (hb : Below w.heap.size w w') : SB B b l w' := by
 have key : ∀ p, Lib.BuilderAt 300 5 B b p (Lib.byteCells l) w → Lib.BuilderAt 300 5 B b p (Lib.byteCells l) w' := by
   rintro p ⟨hB, v, hbk, hown, hne⟩
   refine ⟨hB, v, (hb.block b (lt_of_block hbk)).trans hbk, ?_, hne⟩
   obtain ⟨h1, h2⟩ := hown
   refine ⟨h1, ?_⟩
   rcases h2 with h2 | ⟨g, cap, cur, rfl, hbg, hh, r⟩
   · exact Or.inl h2
   · exact Or.inr ⟨g, cap, cur, rfl, hbg, (hb.block g (lt_of_block hh)).trans hh, r⟩
 rcases h with h | h
 · exact Or.inl (key _ h)
 · exact Or.inr (key _ h)
set_option maxRecDepth 100000
def SF (B b : Nat) (l : List UInt8) (w : World) : Prop := Lib.IsBuilderF 300 5 B b (Lib.byteCells l) w
theorem sf_check (B b : Nat) (bs : List Value) (w : World) (h : Lib.IsBuilderF 300 5 B b bs w) :
   Calls Tryz.prog 244 #[.pointer (some ⟨b, 0, none⟩)] w fun e w' => e = .returned (.tuple #[]) ∧ (Lib.BuilderAtF 300 5 B b (.pointer (some ⟨b, 0, none⟩)) bs w' ∧ Below B w w') := by
 rcases h with h | h
 · refine (sb_check_fresh b w h.cell0 h.shape h.frozen0).mono ?_
   rintro e w' ⟨rfl, rfl⟩
   exact ⟨rfl, h.used _, (Below.refl B w).setCell (p := ⟨b, 0, none⟩) h.1 _⟩
 · refine (sb_check_used b w h.cell0).mono ?_
   rintro e w' ⟨rfl, rfl⟩
   exact ⟨rfl, h, Below.refl B _⟩
set_option maxHeartbeats 1000000 in
theorem sf_len (B b : Nat) (l : List UInt8) (w : World) (h : SF B b l w) :
   Calls Tryz.prog 206 #[.pointer (some ⟨b, 0, none⟩)] w fun e w' => e = .returned (.int .i64 l.length) ∧ w = w' := by
 obtain ⟨p, hB, v, hbk, hown, hne⟩ : ∃ p, Lib.BuilderAtF 300 5 B b p (Lib.byteCells l) w := by
   rcases h with h | h
   · exact ⟨_, h⟩
   · exact ⟨_, h⟩
 rw [Lib.byteCells_length] at hown
 obtain ⟨ao, cap, rfl⟩ : ∃ ao cap, v = .slice ao l.length cap := by
   rcases hown.2 with ⟨hv, h0⟩ | ⟨g, cap, cur, fz, hv, _⟩
   · exact ⟨none, 0, by rw [hv, h0]⟩
   · exact ⟨_, _, hv⟩
 have c1 : w.cell? ⟨b, 1, none⟩ = some (.slice ao l.length cap) := by rw [Lib.cell_of_heap hbk]; rfl
 go_enter Tryz.func206, Tryz.ntmps206
 go_wp2
 go_ret
 exact ⟨rfl, rfl⟩
set_option maxHeartbeats 2000000 in
theorem sf_write (B b : Nat) (l : List UInt8) (s : ByteArray) (w : World) (h : SF B b l w) (hlen : l.length + s.size ≤ 140737488355328) (hBw : B ≤ w.heap.size) :
   Calls Tryz.prog 204 #[.pointer (some ⟨b, 0, none⟩), .string s] w fun e w' => e = .returned (.tuple #[.int .i64 s.size, .nilIface]) ∧ (SF B b (l ++ s.data.toList) w' ∧ Below B w w') := by
 obtain ⟨i0, hi, hz0, hz1, hz2⟩ := info_parts sb_info
 have HC := Lib.hid (sf_check B b _ w h)
 have hl := Lib.byteCells_length l
 go_enter Tryz.func204, Tryz.ntmps204
 go_wp2_with (go_at_call 244; refine HC.out.mono ?_)
 rintro e w1 ⟨rfl, h1, hb1⟩
 obtain ⟨hB, v, hbk, hown, hne⟩ := h1
 have c0 : w1.cell? ⟨b, 0, none⟩ = some (.pointer (some ⟨b, 0, none⟩)) := by rw [Lib.cell_of_heap hbk]; rfl
 have c1 : w1.cell? ⟨b, 1, none⟩ = some v := by rw [Lib.cell_of_heap hbk]; rfl
 go_wp2_with (at_builtin; refine Lib.wpList_append_own_stringF _ rfl _ _ 36 9 rfl B 5 i0 Tryz.underlying36 Tryz.underlying9 hi hz0 hz1 hz2 _ _ _ rfl hown s rfl ?c3 ?c4 ?c5 ?_)
 case c3 => unfold maxLen; omega
 case c4 => omega
 case c5 => have := hb1.size; omega
 intro v' w2 hown' hgrow _
 have hlt : b < w1.heap.size := lt_of_block hbk
 have hb2 : w2.heap[b]? = some (.cells #[.pointer (some ⟨b, 0, none⟩), v] 300 (0, 0)) := by
   rw [hgrow.block b hlt (fun e => hne e.symm)]
   exact hbk
 have d0 : w2.cell? ⟨b, 0, none⟩ = some (.pointer (some ⟨b, 0, none⟩)) := by rw [Lib.cell_of_heap hb2]; rfl
 have d1 : w2.cell? ⟨b, 1, none⟩ = some v := by rw [Lib.cell_of_heap hb2]; rfl
 have f1 : w2.frozen? ⟨b, 1, none⟩ = false := Lib.frozen_of_heap hb2 1
 obtain ⟨ao, n', cap, rfl⟩ : ∃ ao n' cap, v' = .slice ao n' cap := by
   rcases hown'.2 with ⟨hv, _⟩ | ⟨g, cap, cur, fz, hv, _⟩
   · exact ⟨_, _, _, hv⟩
   · exact ⟨_, _, _, hv⟩
 go_wp2
 go_ret2
 refine ⟨rfl, ?_, ?_⟩
 · refine Or.inr ?_
   have e : Lib.byteCells (l ++ s.data.toList) = Lib.byteCells l ++ Lib.strCells s := by simp [Lib.byteCells, Lib.strCells]
   rw [e]
   exact Lib.BuilderAtF.put (T := 300) (e := 5) hB hb2 (bs' := Lib.byteCells l ++ Lib.strCells s) (by simpa [Lib.strCells_length, Lib.byteCells_length] using hown') sb_ne
 · exact (hb1.grown hgrow (by have := hb1.size; omega) (fun k hk => (hown.lt k hk).1)).setCell (p := ⟨b, 1, none⟩) hB _
set_option maxHeartbeats 1000000 in
theorem sf_string (B b : Nat) (l : List UInt8) (w : World) (h : SF B b l w) (h0 : l ≠ []) :
   Calls Tryz.prog 207 #[.pointer (some ⟨b, 0, none⟩)] w fun e w' => e = .returned (.string ⟨l.toArray⟩) ∧ (SF B b l w' ∧ Below B w w') := by
 obtain ⟨p, hp, hAt⟩ : ∃ p, (p = .pointer none ∨ p = .pointer (some ⟨b, 0, none⟩)) ∧ Lib.BuilderAtF 300 5 B b p (Lib.byteCells l) w := by
   rcases h with h | h
   · exact ⟨_, .inl rfl, h⟩
   · exact ⟨_, .inr rfl, h⟩
 obtain ⟨hB, v, hbk, hown, hne⟩ := hAt
 have hl0 : l.length ≠ 0 := by simpa using h0
 rw [Lib.byteCells_length] at hown
 obtain ⟨g, cap, cur, fz, rfl, hbg, hg, hfz, hnc, hcm, hcs, htake⟩ : ∃ g cap cur fz, v = .slice (some ⟨g, 0, none⟩) l.length cap ∧ B ≤ g ∧ w.heap[g]? = some (.cells cur 5 fz) ∧ fz.2 ≤ l.length * 1 ∧ l.length ≤ cap ∧ cap ≤ maxLen ∧ cur.size = cap * 1 ∧ cur.toList.take (l.length * 1) = Lib.byteCells l := by
   rcases hown.2 with ⟨_, hz⟩ | ⟨g, cap, cur, fz, hv, r⟩
   · exact absurd hz hl0
   · exact ⟨g, cap, cur, fz, hv, r⟩
 have c1 : w.drew.cell? ⟨b, 1, none⟩ = some (.slice (some ⟨g, 0, none⟩) l.length cap) := by
   have : w.drew.heap[b]? = some (.cells #[p, .slice (some ⟨g, 0, none⟩) l.length cap] 300 (0, 0)) := hbk
   rw [Lib.cell_of_heap this]; rfl
 have hSD : (Builtin.unsafeSliceData_ #[36] 342 #[.slice (some ⟨g, 0, none⟩) l.length cap]).run Tryz.prog w.drew = .ok (.pointer (some ⟨g, 0, none⟩)) w.drew :=
   Lib.run_unsafeSliceData_row _ _ _ _ _ _ (by omega)
 have hUS : (Builtin.unsafeString_ #[342, 3] 9 #[.pointer (some ⟨g, 0, none⟩), .int .i64 l.length]).run Tryz.prog w.drew = .ok (.string ⟨l.toArray⟩) (w.drew.freeze ⟨g, 0, none⟩ l.length) := by
   refine Lib.run_unsafeString_row w.drew 342 3 9 5 Tryz.underlying342 sb_cells g cur.size (by have hg' : w.drew.heap[g]? = some (.cells cur 5 fz) := hg; simp [World.shape?, hg']) l h0 (by omega) (by unfold maxLen at hcm; omega) ?_
   intro j x hx
   have := hown.cells (g := g) rfl j (.int .u8 x.toNat) (by simp [Lib.byteCells, hx])
   exact this
 have hkeep : SF B b l (w.drew.freeze ⟨g, 0, none⟩ l.length) := by
   have hA : Lib.BuilderAtF 300 5 B b p (Lib.byteCells l) w.drew := ⟨hB, _, hbk, by rw [Lib.byteCells_length]; exact hown, hne⟩
   have hF := hA.froze (g := g) (cap := cap) (by rw [Lib.byteCells_length]; exact c1)
   rw [Lib.byteCells_length] at hF
   rcases hp with rfl | rfl
   · exact .inl hF
   · exact .inr hF
 clear h htake hcs hcm hnc hl0 hown hne hfz
 go_enter Tryz.func207, Tryz.ntmps207
 go_wp2
 go_region
 all_goals (go_wp2; go_ret; exact ⟨rfl, hkeep, Lib.below_freeze (Below.drew (Below.refl B w)) (p := ⟨g, 0, none⟩) hbg _⟩)
end Go.Proofs.YtjbcbnemdhbhbaaGreatDoor
namespace Go.Proofs.YtjbcbnemdhbhbaaGreatDoor
open Go.RowKit
open Go.PlainAid
set_option maxRecDepth 1000000
theorem mask32 (c : Nat) (h : c < 4294967296) : bits .and .u64 (c : Int) 4294967295 = (c : Int) := by
 have := u64_and_nat c 4294967295 (by omega) (by decide)
 rw [show c &&& 4294967295 = c % 4294967296 from Nat.and_two_pow_sub_one_eq_mod c 32, Nat.mod_eq_of_lt h] at this
 exact this
set_option maxHeartbeats 1000000 in
theorem mul64_one (c : Nat) (w : World) (h : c ≤ 100000) :
   Calls Tryz.prog 209 #[.int .u64 1, .int .u64 c] w fun e w' => e = .returned (.tuple #[.int .u64 0, .int .u64 c]) ∧ w = w' := by
 have e1 := mask32 1 (by decide)
 have e2 := mask32 c (by omega)
 have e3 := mask32 0 (by decide)
 have e4 : (c : Int) / 4294967296 = 0 := by omega
 have e1' : bits .and .u64 1 4294967295 = 1 := e1
 have e3' : bits .and .u64 0 4294967295 = 0 := e3
 clear e1 e3
 go_enter Tryz.func209, Tryz.ntmps209
 go_wp2_with fail
 go_ret2
 simp
theorem mul_one (c : Nat) (w : World) (h : c ≤ 100000) :
   Calls Tryz.prog 150 #[.int .u64 1, .int .u64 c] w fun e w' => e = .returned (.tuple #[.int .u64 0, .int .u64 c]) ∧ w = w' := by
 have H := Lib.hid fun W : World => mul64_one c W h
 go_enter Tryz.func150, Tryz.ntmps150
 go_wp2_with (go_at_call 209; refine (H.out _).mono ?_; rintro e w' ⟨rfl, rfl⟩)
 go_ret2
 exact ⟨rfl, rfl⟩
set_option maxHeartbeats 2000000 in
theorem sb_grow_fresh (B b n : Nat) (w : World) (hB : B ≤ b) (hbk : w.heap[b]? = some (.cells #[.pointer (some ⟨b, 0, none⟩), .slice none 0 0] 300 (0, 0))) (hBw : B ≤ w.heap.size) (hn : n ≤ 100000) :
   Calls Tryz.prog 279 #[.pointer (some ⟨b, 0, none⟩), .int .i64 n] w fun e w' => e = .returned (.tuple #[]) ∧ (Lib.BuilderAt 300 5 B b (.pointer (some ⟨b, 0, none⟩)) [] w' ∧ Below B w w') := by
 obtain ⟨cs, hrun, hle, hmax⟩ := Lib.run_makeNoZero (P := Tryz.prog) w.drew #[3] 36 5 Tryz.underlying36 n (by omega)
 have hcall : (callFunc 293 #[.int .i64 (n : Int)]).run Tryz.prog w.drew = .ok (.value (.slice (some ⟨w.drew.heap.size, 0, none⟩) n cs.size)) (w.drew.drew.drew.alloc (.cells cs 5)) := by
   rw [run_callFunc_extern Tryz.func293 (by kernel_rfl) (by kernel_rfl) (by kernel_rfl) (e := Extern.BytealgMakeNoZero.makeNoZero #[3] #[36]) (by kernel_rfl), hrun]
   rfl
 have c1 : w.drew.cell? ⟨b, 1, none⟩ = some (.slice none 0 0) := by
   have : w.drew.heap[b]? = _ := hbk
   rw [Lib.cell_of_heap this]; rfl
 have hlt : b < w.heap.size := lt_of_block hbk
 have c2 : (w.alloc (.cells cs 5)).cell? ⟨b, 1, none⟩ = some (.slice none 0 0) := by
   have : (w.alloc (.cells cs 5)).heap[b]? = _ := (Lib.alloc_old w _ b hlt).trans hbk
   rw [Lib.cell_of_heap this]; rfl
 have f2 : (w.alloc (.cells cs 5)).frozen? ⟨b, 1, none⟩ = false := Lib.frozen_of_heap ((Lib.alloc_old w _ b hlt).trans hbk) 1
 have hcopy : ∀ W : World, (Builtin.copy_ #[36, 36] 3 #[.slice (some ⟨w.heap.size, 0, none⟩) 0 cs.size, .slice none 0 0]).run Tryz.prog W = .ok (goInt 0) W :=
   fun W => run_copy_none W 36 36 3 5 _ _ 0 cs.size 0 0 Tryz.underlying36 (by kernel_rfl) rfl
 have hfin := Lib.grown_fresh (T := 300) (e := 5) (cs := cs) hB hbk hBw (hmax (by unfold maxLen; omega)) sb_ne
 have hsw : (w.alloc (.cells cs 5)).setCell ⟨b, 1, none⟩ (.slice (some ⟨w.heap.size, 0, none⟩) 0 cs.size) = (w.setCell ⟨b, 1, none⟩ (.slice (some ⟨w.heap.size, 0, none⟩) 0 cs.size)).alloc (.cells cs 5) := World.setCell_alloc_past _ _ _ _ hlt
 rw [hsw] at hfin
 clear hsw
 go_enter Tryz.func279, Tryz.ntmps279
 go_wp2_with fail
 go_region
 all_goals (go_wp2_with fail; go_end0; exact ⟨rfl, hfin⟩)
set_option maxHeartbeats 2000000 in
theorem sb_Grow_fresh (B b n : Nat) (w : World) (hB : B ≤ b) (hbk : w.heap[b]? = some (.cells #[.pointer none, .slice none 0 0] 300 (0, 0))) (hBw : B ≤ w.heap.size) (hn : n ≤ 100000) (h1 : 1 ≤ n) :
   Calls Tryz.prog 260 #[.pointer (some ⟨b, 0, none⟩), .int .i64 n] w fun e w' => e = .returned (.tuple #[]) ∧ (SB B b [] w' ∧ Below B w w') := by
 have hbk1 : (w.setCell ⟨b, 0, none⟩ (.pointer (some ⟨b, 0, none⟩))).heap[b]? = some (.cells #[.pointer (some ⟨b, 0, none⟩), .slice none 0 0] 300 (0, 0)) := by
   simp [World.setCell, Array.getElem?_modify, hbk]
 have c1 : (w.setCell ⟨b, 0, none⟩ (.pointer (some ⟨b, 0, none⟩))).cell? ⟨b, 1, none⟩ = some (.slice none 0 0) := by rw [Lib.cell_of_heap hbk1]; rfl
 have hb1 : Below B w (w.setCell ⟨b, 0, none⟩ (.pointer (some ⟨b, 0, none⟩))) := (Below.refl B w).setCell (p := ⟨b, 0, none⟩) hB _
 have c1' : (w.setCell ⟨b, 0, none⟩ (.pointer (some ⟨b, 0, none⟩))).drew.cell? ⟨b, 1, none⟩ = some (.slice none 0 0) := c1
 have q1 : decide ((n : Int) < 0) = false := by simp
 have q2 : decide ((0 : Int) < n) = true := by simp; omega
 have HC := Lib.hid (sb_check_fresh b w (by rw [Lib.cell_of_heap hbk]; rfl) (by simp [World.shape?, hbk]) (Lib.frozen_of_heap hbk 0))
 have HG := Lib.hid (sb_grow_fresh B b n (w.setCell ⟨b, 0, none⟩ (.pointer (some ⟨b, 0, none⟩))).drew hB hbk1 (by simpa [World.setCell, World.drew, -World.drew_eq] using hBw) hn)
 have HB := Lib.hid hb1
 clear hbk hbk1 hb1
 go_enter Tryz.func260, Tryz.ntmps260
 go_wp2_with (go_at_call 244; refine HC.out.mono ?_; rintro e w' ⟨rfl, rfl⟩)
 go_region
 all_goals go_wp2_with (go_at_call 279; refine HG.out.mono ?_; rintro e w' ⟨rfl, h1, h2⟩)
 all_goals (go_end0; exact ⟨rfl, Or.inr h1, HB.out.drew.trans h2⟩)
def noughts (c : Nat) : ByteArray := ⟨(List.replicate c (0 : UInt8)).toArray⟩
theorem noughts_size (c : Nat) : (noughts c).size = c := by unfold noughts; rw [size_list, List.length_replicate]
theorem noughts_list (c : Nat) : (noughts c).data.toList = List.replicate c 0 := rfl
theorem noughts_cut (c k : Nat) (h : k ≤ c) : (noughts c).extract 0 k = noughts k := by
 apply str_eq
 rw [extract_list, noughts_list, noughts_list]
 simp [List.take_replicate]
 omega
theorem run_min_int3 {P : Program} {w : World} (ts : Array TypeId) (t : TypeId) (k k' k'' : IntKind) (x y z : Int) :
   (Builtin.min_ ts t #[.int k x, .int k' y, .int k'' z]).run P w = .ok (.int k (if z < (if y < x then y else x) then z else (if y < x then y else x))) w := by
 simp [Builtin.min_, Builtin.min2]
set_option maxHeartbeats 4000000 in
theorem repeat_any (c : Nat) (w : World) (hc : c ≤ 8000) :
   Calls Tryz.prog 231 #[.string ⟨#[0]⟩, .int .i64 c] w (TellsS (noughts c) w) := by
 by_cases h0 : c = 0
 · subst h0
   go_enter Tryz.func231, Tryz.ntmps231
   go_wp2_with fail
   go_ret
   exact ⟨rfl, Below.refl _ _⟩
 by_cases h1 : c = 1
 · subst h1
   go_enter Tryz.func231, Tryz.ntmps231
   go_wp2_with fail
   go_ret
   exact ⟨rfl, Below.refl _ _⟩
 have q0 : ((c : Int) == 0) = false := by simp; omega
 have q1 : ((c : Int) == 1) = false := by simp; omega
 have q2 : decide ((c : Int) < 0) = false := by simp
 have q3 : decide (9223372036854775807 < (c : Int)) = false := by simp; omega
 have q4 : decide (8192 < (c : Int)) = false := by simp; omega
 have h2 : 2 ≤ c := by omega
 have HM := Lib.hid fun W : World => mul_one c W (by omega)
 have HG := Lib.hid (sb_Grow_fresh w.heap.size w.heap.size c (w.alloc (.cells #[.pointer none, .slice none 0 0] 300)) (Nat.le_refl _) (heap_alloc_new w _) (by simp) (by omega) (by omega))
 have hbw : Below w.heap.size w (w.alloc (.cells #[.pointer none, .slice none 0 0] 300)) := (Below.refl _ _).alloc (Nat.le_refl _) _
 have HW := Lib.hid hbw
 clear h0 h1 hbw
 go_enter Tryz.func231, Tryz.ntmps231
 go_wp2_with (first
   | (go_at_call 150; refine (HM.out _).mono ?_; rintro e w' ⟨rfl, rfl⟩)
   | (go_at_call 260; refine HG.out.mono ?_; rintro e w1 ⟨rfl, hs1, hb1⟩; have HS1 := Lib.hid hs1; have HB1 := Lib.hid (HW.out.trans hb1); clear hs1 hb1)
   | (go_at_call 204; refine (sf_write w.heap.size _ [] ⟨#[0]⟩ w1 (Lib.IsBuilderF.of HS1.out) (by decide) HB1.out.size).mono ?_; rintro e w2 ⟨rfl, hs2, hb2⟩; have HB2 := Lib.hid (HB1.out.trans hb2))
   | fail)
 have HS2 := Lib.hid (show SF w.heap.size w.heap.size (List.replicate 1 0) w2 from hs2)
 clear hs2 hb2
 have hmn : ∀ (W : World) (q : Nat), 1 ≤ q → q < c → (Builtin.min_ #[3, 3, 3] 3 #[.int .i64 ((c : Int) - q), .int .i64 (q : Int), .int .i64 (c : Int)]).run Tryz.prog W = .ok (.int .i64 ((min (c - q) q : Nat) : Int)) W := by
   intro W q hq1 hq2
   rw [run_min_int3]
   congr 2
   split <;> split <;> omega
 have HMN := Lib.hid hmn
 clear hmn
 go_loopg [10] (c - 1) (fun k _ wr => ∃ q : Nat, 1 ≤ q ∧ q + k = c ∧ Hid (SF w.heap.size w.heap.size (List.replicate q 0) wr) ∧ Hid (Below w.heap.size w wr))
 case atStart => exact ⟨1, Nat.le_refl _, by omega, HS2.out, HB2.out⟩
 case round =>
   obtain ⟨q, hq1, hqk, HS, HB⟩ := hrel
   have hne : List.replicate q (0 : UInt8) ≠ [] := by
     intro h
     have := congrArg List.length h
     simp at this
     omega
   have hl : (List.replicate q (0 : UInt8)).length = q := List.length_replicate
   have HL := Lib.hid (sf_len _ _ _ wr HS.out)
   rw [hl] at HL
   have HST := Lib.hid (show Calls Tryz.prog 207 #[.pointer (some ⟨w.heap.size, 0, none⟩)] wr fun e w' => e = .returned (.string (noughts q)) ∧ (SF w.heap.size w.heap.size (List.replicate q 0) w' ∧ Below w.heap.size wr w') from sf_string _ _ _ wr HS.out hne)
   by_cases hlt : q < c
   · have hmn := HMN.out wr q hq1 hlt
     have hm1 : min (c - q) q ≤ q := by omega
     have hm0 : 1 ≤ min (c - q) q := by omega
     have hm2 : q + min (c - q) q ≤ c := by omega
     generalize min (c - q) q = m at *
     have hex := noughts_cut q m hm1
     have hnz := noughts_size q
     have HEX := Lib.hid hex
     have hnz2 : q ≤ (noughts q).size := by omega
     have hnz3 : (noughts q).size ≤ q := by omega
     generalize noughts q = nq at *
     clear hl hex hnz hne
     go_wp2_with (first
       | (go_at_call 206; refine HL.out.mono ?_; rintro e w' ⟨rfl, rfl⟩)
       | (go_at_call 207; refine HST.out.mono ?_; rintro e w3 ⟨rfl, hs3, hb3⟩)
       | fail)
     rw [HEX.out]
     have hbl3 := HB.out.trans hb3
     refine (sf_write w.heap.size _ _ (noughts m) w3 hs3 (by rw [List.length_replicate, noughts_size]; omega) hbl3.size).mono ?_
     rintro e w4 ⟨rfl, hs4, hb4⟩
     rw [noughts_list, List.replicate_append_replicate] at hs4
     have hbl4 := hbl3.trans hb4
     clear hs3 hb3 hb4
     go_wp2_with fail
     go_roundg (c - (q + m))
     case measure => omega
     case rel => exact ⟨q + m, by omega, by omega, hs4, hbl4⟩
   · obtain rfl : q = c := by omega
     clear hl hne
     go_wp2_with (first
       | (go_at_call 206; refine HL.out.mono ?_; rintro e w' ⟨rfl, rfl⟩)
       | (go_at_call 207; refine HST.out.mono ?_; rintro e w3 ⟨rfl, hs3, hb3⟩)
       | fail)
     go_ret
     exact ⟨rfl, HB.out.trans hb3⟩
set_option maxRecDepth 100000
def lays (l : List (Nat × Nat)) : List UInt8 := l.flatMap fun p => Be.low p.1 p.2
theorem lays_snoc (l : List (Nat × Nat)) (p : Nat × Nat) : lays (l ++ [p]) = lays l ++ Be.low p.1 p.2 := by unfold lays; simp [List.flatMap_append]
theorem lays_len (l : List (Nat × Nat)) (h : ∀ p ∈ l, p.2 ≤ 8) : (lays l).length ≤ 8 * l.length := by
 induction l with
 | nil => simp [lays]
 | cons p l ih =>
   have h1 := h p (by simp)
   have h2 := ih (fun q hq => h q (by simp [hq]))
   have e : lays (p :: l) = Be.low p.1 p.2 ++ lays l := by unfold lays; simp
   rw [e, List.length_append, Be.low_len, List.length_cons]
   omega
def NumsAt (w : World) (g : Nat) (l : List (Nat × Nat)) : Prop :=
 g < w.heap.size ∧ ∀ i (h : i < l.length), w.cell? ⟨g, i * 2, none⟩ = some (.int .i64 (l[i].1 : Nat)) ∧ w.cell? ⟨g, i * 2 + 1, none⟩ = some (.int .i64 (l[i].2 : Nat))
def Fits (l : List (Nat × Nat)) : Prop := ∀ p ∈ l, 1 ≤ p.2 ∧ p.2 ≤ 8 ∧ p.1 < 256 ^ p.2 ∧ p.1 < 281474976710656
theorem NumsAt.below {w w' : World} {g : Nat} {l : List (Nat × Nat)} (h : NumsAt w g l) (hb : Below w.heap.size w w') : NumsAt w' g l :=
 ⟨Nat.lt_of_lt_of_le h.1 hb.size, fun i hi => ⟨(hb.cell (p := ⟨g, i * 2, none⟩) h.1).trans (h.2 i hi).1, (hb.cell (p := ⟨g, i * 2 + 1, none⟩) h.1).trans (h.2 i hi).2⟩⟩
set_option maxHeartbeats 1000000 in
theorem lay_any (s : ByteArray) (g m : Nat) (l : List (Nat × Nat)) (w : World) (hm : m = l.length) (hl : l.length ≤ 100) (hs : s.size ≤ 10000) (hg : NumsAt w g l) (hf : Fits l) :
   Calls Tryz.prog 175 #[.string s, .slice (some ⟨g, 0, none⟩) m m] w (TellsS (s ++ ⟨(lays l).toArray⟩) w) := by
 subst hm
 have HG := Lib.hid hg
 have HF := Lib.hid hf
 clear hg hf
 go_enter Tryz.func175, Tryz.ntmps175
 go_wp2_with fail
 go_loopw [0, 9] (fun x i wr => ∃ (j : Nat), i = .int .i64 j ∧ x = .string (s ++ ⟨(lays (l.take j)).toArray⟩) ∧ j ≤ l.length ∧ Hid (Below w.heap.size w wr)) (fun _ i _ => l.length - (intOf i).toNat)
 case atStart => exact ⟨0, rfl, by congr 1; apply str_eq; rw [append_list]; simp [lays], Nat.zero_le _, Below.refl _ _⟩
 case round =>
   obtain ⟨j, rfl, rfl, hj, HB⟩ := hrel
   by_cases hlt : j < l.length
   · obtain ⟨c1, c2⟩ := (HG.out.below HB.out).2 j hlt
     have hgl := (HG.out.below HB.out).1
     obtain ⟨f1, f2, f3, f4⟩ := HF.out l[j] (List.getElem_mem hlt)
     have hsz : (s ++ ⟨(lays (l.take j)).toArray⟩ : ByteArray).size ≤ 20000 := by
       have := lays_len (l.take j) (fun p hp => (HF.out p (List.mem_of_mem_take hp)).2.1)
       rw [List.length_take] at this
       have e := size_list (lays (l.take j))
       rw [ByteArray.size_append]
       omega
     have HT := Lib.hid (show (s ++ ⟨(lays (l.take j)).toArray⟩ ++ ⟨(Be.low l[j].1 l[j].2).toArray⟩ : ByteArray) = s ++ ⟨(lays (l.take (j + 1))).toArray⟩ by
       apply str_eq
       rw [List.take_succ_eq_append_getElem hlt, lays_snoc, append_list, append_list, append_list]
       simp)
     have HP := Lib.hid fun W : World => put_ok (s ++ ⟨(lays (l.take j)).toArray⟩) l[j].1 l[j].2 W (by omega) f1 f2 f3
     generalize (s ++ ⟨(lays (l.take j)).toArray⟩ : ByteArray) = sx at *
     generalize l[j].1 = n at *
     generalize l[j].2 = k at *
     have hws := HB.out.size
     clear f3
     go_wp2_with (first
       | (go_at_call 160; refine (HP.out _).mono ?_; rintro e w2 ⟨rfl, hb2⟩)
       | fail)
     have hb3 : Below w.heap.size w w2 := (HB.out.alloc hws _).trans (hb2.mono (by simp; omega))
     go_roundw
     case rel => exact ⟨j + 1, by go_num, by rw [HT.out], by omega, hb3⟩
     case measure => simp [intOf]; omega
   · have HT := Lib.hid (show l.take j = l from List.take_of_length_le (by omega))
     go_wp2_with fail
     go_ret
     exact tellsS_of (by rw [HT.out]) HB.out
theorem filled_any (s : ByteArray) (m : Nat) (w : World) (hs : s.size ≤ m) (hm : m ≤ 8000) :
   Calls Tryz.prog 176 #[.string s, .int .i64 m] w (TellsS (s ++ noughts (m - s.size)) w) := by
 have HR := Lib.hid fun W : World => repeat_any (m - s.size) W (by omega)
 have e : (m : Int) - s.size = ((m - s.size : Nat) : Int) := by omega
 have hz : (noughts (m - s.size)).size ≤ 8000 := by rw [noughts_size]; omega
 generalize m - s.size = c at *
 generalize noughts c = nc at *
 go_enter Tryz.func176, Tryz.ntmps176
 go_wp2_with (first
   | (go_at_call 231; refine (HR.out _).mono ?_; rintro e w2 ⟨rfl, hb2⟩)
   | fail)
 go_ret
 exact ⟨rfl, hb2⟩
def TellsI (q : Int) (w : World) (e : Ending) (w' : World) : Prop := e = .returned (.int .i64 q) ∧ Below w.heap.size w w'
theorem at_any (s : ByteArray) (p k : Nat) (w : World) (hs : s.size ≤ 1000000) (h1 : 1 ≤ k) (h8 : k ≤ 8) (hp : p + k ≤ s.size) :
   Calls Tryz.prog 211 #[.string s, .int .i64 p, .int .i64 k] w (TellsI (wrap64 (numAt s p k)) w) := by
 have HT := Lib.hid fun W : World => take_ok s p k W hs h1 h8 hp
 generalize numAt s p k = n at *
 go_enter Tryz.func211, Tryz.ntmps211
 go_wp2_with (first
   | (go_at_call 120; refine (HT.out _).mono ?_; rintro e w2 ⟨rfl, hb2⟩)
   | fail)
 go_ret
 exact ⟨rfl, hb2⟩
end Go.Proofs.YtjbcbnemdhbhbaaGreatDoor
namespace Go.Proofs.YtjbcbnemdhbhbaaGreatDoor
open Go.RowKit
set_option maxRecDepth 100000
set_option linter.unusedVariables false
set_option linter.unusedSimpArgs false
theorem tellsI_of {q q' : Int} {w w' : World} (h : q = q') (hb : Below w.heap.size w w') : TellsI q w (.returned (.int .i64 q')) w' := by subst h; exact ⟨rfl, hb⟩
theorem CRow.at {w : World} {S : Nat → Prop} {r : Rw} {l : List Ce} (h : CRow w S r l) (i : Nat) (hi : i < l.length) : ∃ b o, r.A = some ⟨b, o, none⟩ ∧ (S b ∧ b < w.heap.size) ∧ w.cell? ⟨b, o + i * 5, none⟩ = some (.string l[i].key) ∧
   w.cell? ⟨b, o + i * 5 + 1, none⟩ = some (.string l[i].val) ∧ w.cell? ⟨b, o + i * 5 + 2, none⟩ = some (.int .i64 l[i].over) ∧ w.cell? ⟨b, o + i * 5 + 3, none⟩ = some (.int .i64 l[i].size) ∧ w.cell? ⟨b, o + i * 5 + 4, none⟩ = some (.int .i64 l[i].child) := by
 obtain ⟨h1, h2, h3, h4⟩ := h
 obtain ⟨b, o, c, q1, q2, q3, q4, q5⟩ := h4 i l[i] (List.getElem?_eq_getElem hi)
 unfold CeAt at q5
 subst q5
 exact ⟨b, o, q1, q2, q4 0 _ rfl, q4 1 _ rfl, q4 2 _ rfl, q4 3 _ rfl, q4 4 _ rfl⟩
theorem CRow.keep {w w' : World} {S T : Nat → Prop} {r : Rw} {l : List Ce} (h : CRow w S r l) (hs : w.heap.size ≤ w'.heap.size) (hk : ∀ b, S b → b < w.heap.size → w'.heap[b]? = w.heap[b]?) (hT : ∀ b, S b → b < w.heap.size → T b) : CRow w' T r l :=
 RowOf.keep ceAt_stable h hs hk hT
theorem CRow.below {w w' : World} {S : Nat → Prop} {r : Rw} {l : List Ce} (h : CRow w S r l) (hb : Below w.heap.size w w') : CRow w' S r l :=
 h.keep hb.size (fun b _ hlt => hb.block b hlt) (fun _ h _ => h)
theorem str_nil {s : ByteArray} (h : s.size = 0) : s = ⟨#[]⟩ := by
 obtain ⟨⟨l⟩⟩ := s
 have : l.length = 0 := h
 obtain rfl := List.eq_nil_of_length_eq_zero this
 rfl
theorem str_full {s : ByteArray} (h : 0 < s.size) : s.toList.isEmpty = false := by
 rw [ByteArray.toList_eq]
 have : s.data.toList.length = s.size := rfl
 cases hl : s.data.toList with
 | nil => rw [hl] at this; simp at this; omega
 | cons _ _ => rfl
set_option maxHeartbeats 4000000 in
theorem rightLeaf_yes (c : Ce) (w : World) (h : Nd.rightLeaf c = true) : Calls Tryz.prog 287 #[.agg #[.string c.key, .string c.val, .int .i64 c.over, .int .i64 c.size, .int .i64 c.child]] w (TellsQ true w) := by
 obtain ⟨key, val, over, size, child⟩ := c
 unfold Nd.rightLeaf at h
 simp only [Bool.and_eq_true, decide_eq_true_eq, beq_iff_eq] at h
 obtain ⟨⟨⟨h1, h2⟩, rfl⟩, h4⟩ := h
 have k1 := str_full h1
 have k2 : decide ((120 : Int) < (key.size : Int)) = false := decide_eq_false (by omega)
 by_cases ho : over = 0
 · rw [if_pos ho] at h4
   simp only [Bool.and_eq_true, decide_eq_true_eq, beq_iff_eq] at h4
   obtain ⟨rfl, h5⟩ := h4
   subst ho
   have k3 : decide ((val.size : Int) ≤ 96) = true := decide_eq_true (by omega)
   clear h1 h2 h5
   go_enter Tryz.func287, Tryz.ntmps287
   go_wp2_with fail
   go_ret
   exact tellsQ_of rfl ((Below.refl _ w).alloc (Nat.le_refl _) _)
 · rw [if_neg ho] at h4
   simp only [Bool.and_eq_true, decide_eq_true_eq, beq_iff_eq] at h4
   obtain ⟨⟨⟨h5, h6⟩, h7⟩, h8⟩ := h4
   have hv := str_nil h5
   subst hv
   have k3 : ((over : Int) == 0) = false := by rw [beq_eq_false_iff_ne]; omega
   have k3' : (over == 0) = false := by rw [beq_eq_false_iff_ne]; omega
   have k4 : decide ((1 : Int) ≤ (over : Int)) = true := decide_eq_true (by omega)
   have k5 : decide ((over : Int) < 512) = true := decide_eq_true (by omega)
   have k6 : decide ((96 : Int) < (size : Int)) = true := decide_eq_true (by omega)
   have k7 : decide ((size : Int) ≤ 4000) = true := decide_eq_true (by omega)
   clear h1 h2 h5 h6 h7 h8 ho
   go_enter Tryz.func287, Tryz.ntmps287
   go_wp2_with fail
   go_ret
   exact tellsQ_of rfl ((Below.refl _ w).alloc (Nat.le_refl _) _)
set_option maxHeartbeats 4000000 in
theorem rightBranch_yes (c : Ce) (w : World) (h : Nd.rightBranch c = true) : Calls Tryz.prog 286 #[.agg #[.string c.key, .string c.val, .int .i64 c.over, .int .i64 c.size, .int .i64 c.child]] w (TellsQ true w) := by
 obtain ⟨key, val, over, size, child⟩ := c
 unfold Nd.rightBranch at h
 simp only [Bool.and_eq_true, decide_eq_true_eq, beq_iff_eq] at h
 obtain ⟨⟨⟨⟨⟨h1, h2⟩, h3⟩, h4⟩, rfl⟩, rfl⟩ := h
 have hv := str_nil h4
 subst hv
 have k1 : decide ((key.size : Int) ≤ 120) = true := decide_eq_true (by omega)
 have k2 : decide ((1 : Int) ≤ (child : Int)) = true := decide_eq_true (by omega)
 have k3 : decide ((child : Int) < 512) = true := decide_eq_true (by omega)
 clear h1 h2 h3 h4
 go_enter Tryz.func286, Tryz.ntmps286
 go_wp2_with fail
 go_ret
 exact tellsQ_of rfl ((Below.refl _ w).alloc (Nat.le_refl _) _)
def TellsSome (w : World) (e : Ending) (w' : World) : Prop := Below w.heap.size w w' ∧ ∃ q : Bool, e = .returned (.bool q)
set_option maxHeartbeats 4000000 in
theorem rightBranch_some (c : Ce) (w : World) : Calls Tryz.prog 286 #[.agg #[.string c.key, .string c.val, .int .i64 c.over, .int .i64 c.size, .int .i64 c.child]] w (TellsSome w) := by
 obtain ⟨key, val, over, size, child⟩ := c
 go_enter Tryz.func286, Tryz.ntmps286
 go_wp2_with fail
 all_goals
   go_ret
   exact ⟨(Below.refl _ w).alloc (Nat.le_refl _) _, _, rfl⟩
set_option maxHeartbeats 4000000 in
theorem size_any (leaf : Bool) (c : Ce) (w : World) (hk : c.key.size ≤ 1000000) (hv : c.val.size ≤ 1000000) : Calls Tryz.prog 255 #[.bool leaf, .agg #[.string c.key, .string c.val, .int .i64 c.over, .int .i64 c.size, .int .i64 c.child]] w (TellsI (Nd.size leaf c) w) := by
 obtain ⟨key, val, over, size, child⟩ := c
 simp only at hk hv
 obtain ⟨n, hn⟩ : ∃ n : Int, n = (Nd.size leaf ⟨key, val, over, size, child⟩ : Nat) := ⟨_, rfl⟩
 rw [← hn]
 cases leaf with
 | false =>
   have HN := Lib.hid (show n = 4 + (key.size : Int) + 4 by rw [hn]; unfold Nd.size; simp)
   clear hn
   go_enter Tryz.func255, Tryz.ntmps255
   go_wp2_with fail
   go_ret
   exact tellsI_of HN.out ((Below.refl _ w).alloc (Nat.le_refl _) _)
 | true =>
   by_cases ho : 0 < over
   · have k1 : decide ((0 : Int) < (over : Int)) = true := decide_eq_true (by omega)
     have k2 : decide (0 < over) = true := decide_eq_true ho
     have HN := Lib.hid (show n = 4 + (key.size : Int) + 9 by rw [hn]; unfold Nd.size; simp [ho])
     clear hn ho
     go_enter Tryz.func255, Tryz.ntmps255
     go_wp2_with fail
     go_ret
     exact tellsI_of HN.out ((Below.refl _ w).alloc (Nat.le_refl _) _)
   · have k1 : decide ((0 : Int) < (over : Int)) = false := decide_eq_false (by omega)
     have k2 : decide (0 < over) = false := decide_eq_false ho
     have HN := Lib.hid (show n = 4 + (key.size : Int) + 3 + (val.size : Int) by rw [hn]; unfold Nd.size; simp [ho])
     clear hn ho
     go_enter Tryz.func255, Tryz.ntmps255
     go_wp2_with fail
     go_ret
     exact tellsI_of HN.out ((Below.refl _ w).alloc (Nat.le_refl _) _)
end Go.Proofs.YtjbcbnemdhbhbaaGreatDoor

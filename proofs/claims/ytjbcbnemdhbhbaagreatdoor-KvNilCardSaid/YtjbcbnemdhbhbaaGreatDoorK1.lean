import Derived.Test.YtjbcbnemdhbhbaaGreatDoorK0
import Derived.Deep.OwnRows
import Derived.Laws.BitsAllLaws
namespace Go.Proofs.YtjbcbnemdhbhbaaGreatDoor
open Go.RowKit
set_option linter.unusedVariables false
def Stable {α : Type} (At : World → (Nat → Prop) → α → List Value → Prop) : Prop :=
  ∀ {w w' : World} {S T : Nat → Prop}, w.heap.size ≤ w'.heap.size → (∀ b, S b → b < w.heap.size → w'.heap[b]? = w.heap[b]?) → (∀ b, S b → b < w.heap.size → T b) → ∀ d c, At w S d c → At w' T d c
def RowOf {α : Type} (k : Nat) (At : World → (Nat → Prop) → α → List Value → Prop) (w : World) (S : Nat → Prop) (r : Rw) (ds : List α) : Prop :=
  r.n = ds.length ∧ r.n ≤ r.c ∧ r.c ≤ maxLen ∧ ∀ (i : Nat) (d : α), ds[i]? = some d → ∃ (b o : Nat) (c : List Value), r.A = some ⟨b, o, none⟩ ∧ (S b ∧ b < w.heap.size) ∧ c.length = k ∧
    (∀ (j : Nat) (u : Value), c[j]? = some u → w.cell? ⟨b, o + i * k + j, none⟩ = some u) ∧ At w S d c
theorem RowOf.nil {α : Type} {k : Nat} {At : World → (Nat → Prop) → α → List Value → Prop} (w : World) (S : Nat → Prop) : RowOf k At w S Rw.none [] :=
  ⟨rfl, Nat.le_refl _, Nat.zero_le _, fun i d h => by simp at h⟩
theorem RowOf.keep {α : Type} {k : Nat} {At : World → (Nat → Prop) → α → List Value → Prop} (hA : Stable At) {w w' : World} {S T : Nat → Prop} {r : Rw} {ds : List α} (h : RowOf k At w S r ds)
    (hs : w.heap.size ≤ w'.heap.size) (hk : ∀ b, S b → b < w.heap.size → w'.heap[b]? = w.heap[b]?) (hT : ∀ b, S b → b < w.heap.size → T b) : RowOf k At w' T r ds := by
  obtain ⟨h1, h2, h3, h4⟩ := h
  refine ⟨h1, h2, h3, fun i d hd => ?_⟩
  obtain ⟨b, o, c, q1, q2, q3, q4, q5⟩ := h4 i d hd
  refine ⟨b, o, c, q1, ⟨hT b q2.1 q2.2, Nat.lt_of_lt_of_le q2.2 hs⟩, q3, fun j u hu => ?_, hA hs hk hT d c q5⟩
  exact (World.cell?_of_block (a := ⟨b, o + i * k + j, none⟩) (hk b q2.1 q2.2)).trans (q4 j u hu)
theorem flatten_get {k : Nat} : ∀ (css : List (List Value)), (∀ c ∈ css, c.length = k) → ∀ (i : Nat) (c : List Value), css[i]? = some c → ∀ j, j < k → css.flatten[i * k + j]? = c[j]?
  | [], _, i, c, h, _, _ => by simp at h
  | x :: css, hl, i, c, h, j, hj => by
    have hx : x.length = k := hl x (by simp)
    cases i with
    | zero =>
      obtain rfl : x = c := by simpa using h
      rw [Nat.zero_mul, Nat.zero_add, List.flatten_cons, List.getElem?_append_left (by omega)]
    | succ i =>
      have := flatten_get css (fun c hc => hl c (by simp [hc])) i c (by simpa using h) j hj
      rw [List.flatten_cons, List.getElem?_append_right (by rw [hx, Nat.add_mul]; omega), ← this]
      congr 1
      rw [hx, Nat.add_mul]
      omega
def GRow {α : Type} (E : TypeId) (k : Nat) (At : World → (Nat → Prop) → α → List Value → Prop) (w : World) (B : Nat) (v : Value) (ds : List α) : Prop :=
  ∃ css : List (List Value), css.length = ds.length ∧ (∀ c ∈ css, c.length = k) ∧ w.ownsRow B E k v ds.length css.flatten ∧
    ∀ (i : Nat) (d : α) (c : List Value), ds[i]? = some d → css[i]? = some c → At w (fun b => B ≤ b ∧ v.ownBlock ≠ some b) d c
section
variable {α : Type} {E : TypeId} {k : Nat} {At : World → (Nat → Prop) → α → List Value → Prop}
theorem GRow.nil (w : World) (B : Nat) : GRow E k At w B (.slice none 0 0) [] := ⟨[], rfl, fun c h => by simp at h, World.ownsRow_nil _ _ _ _, fun i d c h => by simp at h⟩
theorem GRow.keep (hA : Stable At) {w w' : World} {B : Nat} {v : Value} {ds : List α} (h : GRow E k At w B v ds) (hs : w.heap.size ≤ w'.heap.size) (hk : ∀ b, B ≤ b → b < w.heap.size → w'.heap[b]? = w.heap[b]?) : GRow E k At w' B v ds := by
  obtain ⟨css, h1, h2, h3, h4⟩ := h
  refine ⟨css, h1, h2, ?_, fun i d c hd hc => hA hs (fun b hb hlt => hk b hb.1 hlt) (fun _ h _ => h) d c (h4 i d c hd hc)⟩
  obtain ⟨a1, a2⟩ := h3
  refine ⟨a1, ?_⟩
  rcases a2 with a2 | ⟨g, cap, cur, rfl, hb, hh, r⟩
  · exact Or.inl a2
  · exact Or.inr ⟨g, cap, cur, rfl, hb, (hk g hb (lt_of_block hh)).trans hh, r⟩
theorem GRow.off (hA : Stable At) {w w' : World} {B : Nat} {v : Value} {ds : List α} {S : List Nat} (h : GRow E k At w B v ds) (ho : Off S w w') (hS : ∀ g ∈ S, g < B) : GRow E k At w' B v ds :=
  h.keep hA ho.size (fun b hb hlt => ho.block b hlt (fun hm => by have := hS b hm; omega))
theorem GRow.below (hA : Stable At) {w w' : World} {B : Nat} {v : Value} {ds : List α} (h : GRow E k At w B v ds) (hb : Below w.heap.size w w') : GRow E k At w' B v ds :=
  h.keep hA hb.size (fun b _ hlt => hb.block b hlt)
theorem GRow.lt {w : World} {B : Nat} {v : Value} {ds : List α} (h : GRow E k At w B v ds) : ∀ g, v.ownBlock = some g → B ≤ g ∧ g < w.heap.size := by
  obtain ⟨css, _, _, h3, _⟩ := h
  exact h3.lt
theorem GRow.push (hA : Stable At) {w w1 w2 w3 : World} {B : Nat} {v v' : Value} {ds : List α} {d : α} {c : List Value} {css : List (List Value)} (hB : B ≤ w.heap.size)
    (hcl : css.length = ds.length) (hck : ∀ c ∈ css, c.length = k) (hown : w.ownsRow B E k v ds.length css.flatten)
    (hall : ∀ (i : Nat) (d : α) (c : List Value), ds[i]? = some d → css[i]? = some c → At w (fun b => B ≤ b ∧ v.ownBlock ≠ some b) d c)
    (h1 : ∀ b, B ≤ b → b < w.heap.size → w1.heap[b]? = w.heap[b]?) (hs1 : w.heap.size ≤ w1.heap.size) (hc : c.length = k) (ht : At w1 (fun b => w.heap.size ≤ b) d c) (h2 : Below w1.heap.size w1 w2)
    (hown3 : w3.ownsRow B E k v' (ds.length + 1) (css.flatten ++ c)) (hgr : w2.grownBy w3 v.ownBlock) (hat : v'.ownBlock = v.ownBlock ∨ v'.ownBlock = some w2.heap.size) :
    GRow E k At w3 B v' (ds ++ [d]) := by
  have s2 := h2.size
  have s3 := hgr.size
  have hvlt := hown.lt
  have hne : ∀ b, b < w2.heap.size → v.ownBlock ≠ some b → v'.ownBlock ≠ some b := by
    intro b hb hn e
    rcases hat with h | h
    · exact hn (h ▸ e)
    · rw [h] at e; injection e with e; omega
  refine ⟨css ++ [c], by simp [hcl], fun x hx => ?_, by rw [List.flatten_append, List.length_append]; simpa using hown3, fun i x y hx hy => ?_⟩
  · rcases List.mem_append.1 hx with hx | hx
    · exact hck x hx
    · rw [List.mem_singleton.1 hx]; exact hc
  · by_cases hlt : i < ds.length
    · rw [List.getElem?_append_left hlt] at hx
      rw [List.getElem?_append_left (by omega)] at hy
      refine hA (by omega) (fun b hb hbl => ?_) (fun b hb hbl => ⟨hb.1, hne b (by omega) hb.2⟩) _ _ (hall i x y hx hy)
      exact (hgr.block b (by omega) (fun e => hb.2 e.symm)).trans ((h2.block b (by omega)).trans (h1 b hb.1 hbl))
    · have hi : i < (ds ++ [d]).length := (List.getElem?_eq_some_iff.1 hx).1
      rw [List.length_append, List.length_singleton] at hi
      obtain rfl : i = ds.length := by omega
      obtain rfl : d = x := by simpa using hx
      rw [← hcl] at hy
      obtain rfl : c = y := by simpa using hy
      refine hA (by omega) (fun b hb hbl => ?_) (fun b hb hbl => ⟨by omega, hne b (by omega) (fun e => by have := (hvlt b e).2; omega)⟩) _ _ ht
      exact (hgr.block b (by omega) (fun e => by have := (hvlt b e.symm).2; omega)).trans (h2.block b hbl)
theorem GRow.row (hA : Stable At) {w : World} {B : Nat} {v : Value} {ds : List α} (h : GRow E k At w B v ds) : ∃ r : Rw, v = .slice r.A r.n r.c ∧ RowOf k At w (fun b => B ≤ b) r ds := by
  obtain ⟨css, h1, h2, h3, h4⟩ := h
  obtain ⟨hl, hr⟩ := h3
  rcases hr with ⟨rfl, hn⟩ | ⟨g, cap, cur, rfl, hb, hh, hc, hm, hcs, htk⟩
  · obtain rfl : ds = [] := List.eq_nil_of_length_eq_zero hn
    exact ⟨Rw.none, rfl, RowOf.nil _ _⟩
  · refine ⟨⟨some ⟨g, 0, none⟩, ds.length, cap⟩, rfl, rfl, by show ds.length ≤ cap; omega, hm, fun i d hd => ?_⟩
    have hi : i < ds.length := (List.getElem?_eq_some_iff.1 hd).1
    obtain ⟨c, hci⟩ : ∃ c, css[i]? = some c := ⟨css[i]'(by omega), List.getElem?_eq_getElem (by omega)⟩
    have hck := h2 c (List.mem_of_getElem? hci)
    refine ⟨g, 0, c, rfl, ⟨hb, lt_of_block hh⟩, hck, fun j u hu => ?_, hA (Nat.le_refl _) (fun _ _ _ => rfl) (fun _ h _ => h.1) _ _ (h4 i d c hd hci)⟩
    have hj : j < k := by rw [← hck]; exact (List.getElem?_eq_some_iff.1 hu).1
    rw [cell_of_row w g _ cur _ (0, 0) hh, Nat.zero_add]
    have hf := flatten_get css h2 i c hci j hj
    rw [hu] at hf
    have hlt : i * k + j < css.flatten.length := (List.getElem?_eq_some_iff.1 hf).1
    rw [← htk, List.getElem?_take_of_lt (by omega)] at hf
    rw [← Array.getElem?_toList]
    exact hf
end
end Go.Proofs.YtjbcbnemdhbhbaaGreatDoor
namespace Go.Proofs.YtjbcbnemdhbhbaaGreatDoor
namespace Be
def low (n : Nat) : Nat → List UInt8
  | 0 => []
  | k + 1 => UInt8.ofNat (n / 256 ^ k % 256) :: low n k
def num (l : List UInt8) : Nat := l.foldl (fun n c => n * 256 + c.toNat) 0
theorem low_len (n k : Nat) : (low n k).length = k := by
  induction k with
  | zero => rfl
  | succ k ih => simp [low, ih]
theorem fold_app (l : List UInt8) : ∀ a, l.foldl (fun n c => n * 256 + c.toNat) a = a * 256 ^ l.length + num l := by
  induction l with
  | nil => intro a; simp [num]
  | cons c l ih =>
    intro a
    unfold num
    simp only [List.foldl_cons, List.length_cons]
    rw [ih, ih (0 * 256 + c.toNat), Nat.pow_succ]
    simp [Nat.add_mul, Nat.mul_assoc, Nat.mul_comm 256, Nat.add_assoc]
theorem num_cons (c : UInt8) (l : List UInt8) : num (c :: l) = c.toNat * 256 ^ l.length + num l := by
  have := fold_app l (0 * 256 + c.toNat)
  simpa [num] using this
theorem num_snoc (c : UInt8) (l : List UInt8) : num (l ++ [c]) = num l * 256 + c.toNat := by unfold num; rw [List.foldl_append]; rfl
theorem num_lt (l : List UInt8) : num l < 256 ^ l.length := by
  induction l with
  | nil => simp [num]
  | cons c l ih =>
    rw [num_cons, List.length_cons, Nat.pow_succ]
    have hc := c.toNat_lt
    have : c.toNat * 256 ^ l.length ≤ 255 * 256 ^ l.length := Nat.mul_le_mul_right _ (by omega)
    omega
theorem num_low (n k : Nat) : num (low n k) = n % 256 ^ k := by
  induction k with
  | zero => simp [low, num, Nat.mod_one]
  | succ k ih =>
    unfold low
    rw [num_cons, low_len, ih]
    have e : (UInt8.ofNat (n / 256 ^ k % 256)).toNat = n / 256 ^ k % 256 := by rw [UInt8.toNat_ofNat']; omega
    rw [e, Nat.pow_succ, Nat.mod_mul]
    rw [Nat.mul_comm, Nat.add_comm]
theorem num_low_fit (n k : Nat) (h : n < 256 ^ k) : num (low n k) = n := by rw [num_low, Nat.mod_eq_of_lt h]
theorem div_step (n j : Nat) : n / 256 ^ j / 256 = n / 256 ^ (j + 1) := by rw [Nat.div_div_eq_div_mul, Nat.pow_succ]
end Be
end Go.Proofs.YtjbcbnemdhbhbaaGreatDoor
namespace Go.Proofs.YtjbcbnemdhbhbaaGreatDoor
open Go.RowKit
set_option linter.unusedVariables false
structure Ce where
  key : ByteArray
  val : ByteArray
  over : Nat
  size : Nat
  child : Nat
def Ce.zero : Ce := ⟨⟨#[]⟩, ⟨#[]⟩, 0, 0, 0⟩
def Ce.vals (c : Ce) : List Value := [.string c.key, .string c.val, .int .i64 c.over, .int .i64 c.size, .int .i64 c.child]
def CeAt (w : World) (S : Nat → Prop) (c : Ce) (vs : List Value) : Prop := vs = c.vals
theorem ceAt_stable : Stable CeAt := fun _ _ _ d c h => h
def CRow (w : World) (S : Nat → Prop) (r : Rw) (l : List Ce) : Prop := RowOf 5 CeAt w S r l
namespace Nd
def size (leaf : Bool) (c : Ce) : Nat := if leaf then (if 0 < c.over then 4 + c.key.size + 9 else 4 + c.key.size + 3 + c.val.size) else 4 + c.key.size + 4
def sum (leaf : Bool) (l : List Ce) : Nat := 2 + (l.map (size leaf)).sum
def rightLeaf (c : Ce) : Bool := 0 < c.key.size && c.key.size ≤ 120 && c.child == 0 && (if c.over = 0 then c.size == 0 && c.val.size ≤ 96 else c.val.size == 0 && c.over < 512 && 96 < c.size && c.size ≤ 4000)
def rightBranch (c : Ce) : Bool := c.key.size ≤ 120 && 1 ≤ c.child && c.child < 512 && c.val.size == 0 && c.over == 0 && c.size == 0
def rightOne (leaf : Bool) (c : Ce) : Bool := if leaf then rightLeaf c else rightBranch c
theorem less_irrefl : ∀ a : List UInt8, Op.bytesLess a a = false
  | [] => rfl
  | a :: l => by simp [Op.bytesLess, less_irrefl l]
theorem less_trans : ∀ {a b c : List UInt8}, Op.bytesLess a b = true → Op.bytesLess b c = true → Op.bytesLess a c = true
  | _, [], _, h, _ => by cases ‹List UInt8› <;> simp [Op.bytesLess] at h
  | _, _ :: _, [], _, h => by simp [Op.bytesLess] at h
  | [], _ :: _, _ :: _, _, _ => rfl
  | x :: a, y :: b, z :: c, h1, h2 => by
    simp only [Op.bytesLess, Bool.or_eq_true, Bool.and_eq_true, decide_eq_true_eq, beq_iff_eq] at h1 h2 ⊢
    rcases h1 with h1 | ⟨rfl, h1⟩
    · rcases h2 with h2 | ⟨rfl, h2⟩
      · exact .inl (UInt8.lt_trans h1 h2)
      · exact .inl h1
    · rcases h2 with h2 | ⟨rfl, h2⟩
      · exact .inl h2
      · exact .inr ⟨rfl, less_trans h1 h2⟩
theorem less_total : ∀ (a b : List UInt8), Op.bytesLess a b = true ∨ a = b ∨ Op.bytesLess b a = true
  | [], [] => .inr (.inl rfl)
  | [], _ :: _ => .inl rfl
  | _ :: _, [] => .inr (.inr rfl)
  | x :: a, y :: b => by
    simp only [Op.bytesLess, Bool.or_eq_true, Bool.and_eq_true, decide_eq_true_eq, beq_iff_eq, List.cons.injEq]
    rcases less_total a b with h | h | h <;> by_cases e : x = y
    · exact .inl (.inr ⟨e, h⟩)
    · rcases UInt8.lt_or_lt_of_ne e with h1 | h1
      · exact .inl (.inl h1)
      · exact .inr (.inr (.inl h1))
    · exact .inr (.inl ⟨e, h⟩)
    · rcases UInt8.lt_or_lt_of_ne e with h1 | h1
      · exact .inl (.inl h1)
      · exact .inr (.inr (.inl h1))
    · exact .inr (.inr (.inr ⟨e.symm, h⟩))
    · rcases UInt8.lt_or_lt_of_ne e with h1 | h1
      · exact .inl (.inl h1)
      · exact .inr (.inr (.inl h1))
def lt (a b : ByteArray) : Bool := Op.bytesLess a.toList b.toList
theorem str_ext {a b : ByteArray} (h : a.toList = b.toList) : a = b := by
  rw [ByteArray.toList_eq, ByteArray.toList_eq] at h
  obtain ⟨⟨a⟩⟩ := a
  obtain ⟨⟨b⟩⟩ := b
  simp only at h
  subst h
  rfl
theorem lt_irrefl (a : ByteArray) : lt a a = false := less_irrefl _
theorem lt_trans {a b c : ByteArray} (h1 : lt a b = true) (h2 : lt b c = true) : lt a c = true := less_trans h1 h2
theorem lt_asymm {a b : ByteArray} (h : lt a b = true) : lt b a = false := by
  cases h2 : lt b a with
  | false => rfl
  | true => have := lt_trans h h2; rw [lt_irrefl] at this; cases this
theorem lt_total (a b : ByteArray) : lt a b = true ∨ a = b ∨ lt b a = true := by
  rcases less_total a.toList b.toList with h | h | h
  · exact .inl h
  · exact .inr (.inl (str_ext h))
  · exact .inr (.inr h)
theorem lt_ne {a b : ByteArray} (h : lt a b = true) : (a.toList == b.toList) = false ∧ (b.toList == a.toList) = false := by
  constructor
  · rw [beq_eq_false_iff_ne]; intro e; rw [str_ext e, lt_irrefl] at h; cases h
  · rw [beq_eq_false_iff_ne]; intro e; rw [str_ext e, lt_irrefl] at h; cases h
def rise : List Ce → Bool
  | [] => true
  | [_] => true
  | a :: b :: l => lt a.key b.key && rise (b :: l)
theorem rise_at : ∀ {l : List Ce}, rise l = true → ∀ (i : Nat) (h : i + 1 < l.length), lt (l[i]'(by omega)).key l[i + 1].key = true
  | [], _, i, h => by simp at h
  | [_], _, i, h => by simp at h
  | a :: b :: l, hr, i, h => by
    simp only [rise, Bool.and_eq_true] at hr
    cases i with
    | zero => exact hr.1
    | succ i => exact rise_at hr.2 i (by simpa using h)
def right (leaf : Bool) (l : List Ce) : Bool := (leaf || (match l with | [] => false | c :: _ => c.key.size == 0)) && (l.all (rightOne leaf) && rise l)
def bytes (leaf : Bool) (c : Ce) : List UInt8 :=
  Be.low c.key.size 2 ++ c.key.data.toList ++
    (if leaf then (if 0 < c.over then 1 :: (Be.low c.over 4 ++ Be.low c.size 4) else 0 :: (Be.low c.val.size 2 ++ c.val.data.toList)) else Be.low c.child 4)
def tail (leaf : Bool) (l : List Ce) : List UInt8 := (l.map (bytes leaf)).flatten
def slots (leaf : Bool) (l : List Ce) (first : Nat) : Nat → List UInt8
  | 0 => []
  | k + 1 => slots leaf l first k ++ Be.low (first + (tail leaf (l.take k)).length) 2
def enc (leaf : Bool) (l : List Ce) : List UInt8 := Be.low l.length 2 ++ slots leaf l (2 + 2 * l.length) l.length ++ tail leaf l
theorem bytes_len (leaf : Bool) (c : Ce) : (bytes leaf c).length + 2 = size leaf c := by
  unfold bytes size
  have e : ∀ s : ByteArray, s.data.toList.length = s.size := fun _ => rfl
  cases leaf
  · simp only [List.length_append, Be.low_len, e, Bool.false_eq_true, if_false]
    omega
  · simp only [if_true]
    split
    · simp only [List.length_append, List.length_cons, Be.low_len, e]
      omega
    · simp only [List.length_append, List.length_cons, Be.low_len, e]
      omega
theorem tail_cons (leaf : Bool) (c : Ce) (l : List Ce) : tail leaf (c :: l) = bytes leaf c ++ tail leaf l := by simp [tail]
theorem tail_app (leaf : Bool) (a b : List Ce) : tail leaf (a ++ b) = tail leaf a ++ tail leaf b := by simp [tail]
theorem tail_len (leaf : Bool) : ∀ l : List Ce, (tail leaf l).length + 2 * l.length = (l.map (size leaf)).sum
  | [] => by simp [tail]
  | c :: l => by
    have h := tail_len leaf l
    have h2 := bytes_len leaf c
    rw [tail_cons, List.length_append, List.map_cons, List.sum_cons, List.length_cons]
    omega
theorem slots_len (leaf : Bool) (l : List Ce) (first : Nat) : ∀ k, (slots leaf l first k).length = 2 * k
  | 0 => rfl
  | k + 1 => by rw [slots, List.length_append, slots_len leaf l first k, Be.low_len]; omega
theorem enc_len (leaf : Bool) (l : List Ce) : (enc leaf l).length = sum leaf l := by
  have h := tail_len leaf l
  unfold enc sum
  rw [List.length_append, List.length_append, Be.low_len, slots_len]
  omega
theorem size_le {leaf : Bool} {c : Ce} (h : rightOne leaf c = true) : 8 ≤ size leaf c ∧ size leaf c ≤ 223 := by
  unfold rightOne at h
  unfold size
  cases leaf
  · simp only [Bool.false_eq_true, if_false, rightBranch, Bool.and_eq_true, decide_eq_true_eq] at h ⊢
    omega
  · simp only [if_true, rightLeaf, Bool.and_eq_true, decide_eq_true_eq] at h ⊢
    obtain ⟨⟨⟨h1, h2⟩, h3⟩, h4⟩ := h
    split
    · next ho => rw [if_neg (by omega)] at h4; simp at h4; omega
    · next ho => rw [if_pos (by omega)] at h4; simp at h4; omega
theorem slots_get (leaf : Bool) (l : List Ce) (first : Nat) : ∀ (k i : Nat), i < k → ((slots leaf l first k).drop (2 * i)).take 2 = Be.low (first + (tail leaf (l.take i)).length) 2
  | k + 1, i, h => by
    rw [slots]
    have hl := slots_len leaf l first k
    by_cases hi : i < k
    · rw [List.drop_append_of_le_length (by omega), List.take_append_of_le_length (by rw [List.length_drop]; omega)]
      exact slots_get leaf l first k i hi
    · obtain rfl : i = k := by omega
      rw [List.drop_append, List.drop_of_length_le (by omega), hl, List.nil_append, Nat.sub_self, List.drop_zero, List.take_of_length_le (by rw [Be.low_len]; omega)]
end Nd
end Go.Proofs.YtjbcbnemdhbhbaaGreatDoor
namespace Go.Proofs.YtjbcbnemdhbhbaaGreatDoor
open Go.RowKit
open Go.PlainAid
set_option maxRecDepth 100000
def TellsSE (s : ByteArray) (n : Int) (w : World) (e : Ending) (w' : World) : Prop := e = .returned (.tuple #[.string s, .int .i64 n]) ∧ Below w.heap.size w w'
theorem tellsSE_of {q q' : ByteArray} {n : Int} {w w' : World} (h : q = q') (hb : Below w.heap.size w w') : TellsSE q n w (.returned (.tuple #[.string q', .int .i64 n])) w' := by subst h; exact ⟨rfl, hb⟩
def putCells (n k i : Nat) : Array Value := (List.replicate i (Value.int .u8 0) ++ u8s (Be.low n (k - i))).toArray
theorem putCells_step (n k m : Nat) (h : m < k) : (putCells n k (m + 1)).setIfInBounds m (.int .u8 ((n / 256 ^ (k - (m + 1)) : Nat) % 256 : Int)) = putCells n k m := by
  unfold putCells
  have e : k - m = (k - (m + 1)) + 1 := by omega
  rw [e]
  show _ = (List.replicate m (Value.int .u8 0) ++ (Value.int .u8 ((UInt8.ofNat (n / 256 ^ (k - (m + 1)) % 256)).toNat) :: u8s (Be.low n (k - (m + 1))))).toArray
  rw [List.replicate_succ', List.append_assoc, List.setIfInBounds_toArray, List.set_append_right _ _ (by simp)]
  simp
theorem pow256 (k : Nat) (h : k ≤ 8) : 256 ^ k ≤ 18446744073709551616 := Nat.le_trans (Nat.pow_le_pow_right (by decide) h) (by decide)
theorem made_u8 (k n : Nat) : madeCells #[Value.int .u8 0] k = putCells n k k := by
  unfold putCells
  rw [Nat.sub_self]
  apply Array.ext
  · simp [madeCells, u8s, Be.low]
  · intro i h1 h2
    simp [madeCells, u8s, Be.low]
    rw [Nat.mod_one]
    rfl
def PutAt (w : World) (n k i : Nat) (wr : World) : Prop := i ≤ k ∧ Bk wr w.heap.size 5 (putCells n k i) ∧ Below w.heap.size w wr
theorem putCells_at (n k m : Nat) : (putCells n k (m + 1))[m]? = some (.int .u8 0) := by
  unfold putCells
  rw [List.getElem?_toArray, List.getElem?_append_left (by simp), List.getElem?_replicate, if_pos (by omega)]
theorem putCells_end (n k : Nat) (w : World) (W : World) (h : Bk W w.heap.size 5 (putCells n k 0)) :
    (convert 36 9 (.slice (some ⟨w.heap.size, 0, none⟩) k k)).run Tryz.prog W = .ok (.string ⟨(Be.low n k).toArray⟩) W := by
  refine conv_cells (by rw [Be.low_len]) fun j hj => ?_
  rw [Nat.zero_add, h.cell j]
  unfold putCells
  rw [List.getElem?_toArray, List.replicate_zero, List.nil_append, Nat.sub_zero]
  unfold u8s
  rw [List.getElem?_map, List.getElem?_eq_getElem hj]
  rfl
set_option maxRecDepth 100000 in
set_option maxHeartbeats 1000000 in
theorem put_ok (s : ByteArray) (n k : Nat) (w : World) (hs : s.size ≤ 1000000) (h1 : 1 ≤ k) (h8 : k ≤ 8) (hn : n < 256 ^ k) :
    Calls Tryz.prog 160 #[.string s, .int .u64 n, .int .i64 k] w (TellsSE (s ++ ⟨(Be.low n k).toArray⟩) 0 w) := by
  have hn64 : n < 18446744073709551616 := Nat.lt_of_lt_of_le hn (pow256 k h8)
  have hmk := run_make_row' (P := Tryz.prog) 36 5 (.int .u8 0) 1 Tryz.underlying36 info_u8 rfl .i64 .i64 k (by omega) (by omega) w
  rw [made_u8 k n] at hmk
  have HS := Lib.hid (show PutAt w n k k (w.alloc (.cells (putCells n k k) 5)) from ⟨Nat.le_refl _, Bk.new _ _ _, (Below.refl _ _).alloc (Nat.le_refl _) _⟩)
  have q1 : decide ((k : Int) < 1) = false := by simp; omega
  have q2 : decide (8 < (k : Int)) = false := by simp; omega
  have hq : (k < 8 ∧ decide ((k : Int) < 8) = true ∧ (n : Int) / 2 ^ (8 * k) = 0) ∨ (¬ k < 8 ∧ decide ((k : Int) < 8) = false) := by
    by_cases hk8 : k < 8
    · refine Or.inl ⟨hk8, by simp; omega, ?_⟩
      have e : (2 : Nat) ^ (8 * k) = 256 ^ k := by rw [Nat.pow_mul]
      have := Nat.div_eq_of_lt (show n < 2 ^ (8 * k) by rw [e]; exact hn)
      exact_mod_cast this
    · exact Or.inr ⟨hk8, by simp; omega⟩
  have HN64 := Lib.hid hn64
  clear hn hn64
  rcases hq with ⟨hk8, q3, e3⟩ | ⟨hk8, q3⟩
  all_goals
    go_enter Tryz.func160, Tryz.ntmps160
    go_wp2_with fail
    go_loopw [1, 9] (fun x i wr => ∃ (j : Nat), i = .int .i64 ((j : Int) - 1) ∧ x = .int .u64 ((n / 256 ^ (k - j) : Nat)) ∧ PutAt w n k j wr) (fun _ i _ => (intOf i + 1).toNat)
    case atStart => exact ⟨k, rfl, by rw [Nat.sub_self]; simp, HS.out⟩
    case round =>
      clear HS hmk
      obtain ⟨j, rfl, rfl, hj, hb, hbl⟩ := hrel
      cases j with
      | zero =>
        have hcv := putCells_end n k w wr hb
        have e : (((0 : Nat) : Int) - 1) = -1 := by omega
        rw [e]
        have hsz : (⟨(Be.low n k).toArray⟩ : ByteArray).size ≤ 8 := by rw [size_list, Be.low_len]; exact h8
        generalize (⟨(Be.low n k).toArray⟩ : ByteArray) = ls at *
        clear e hb
        go_wp2_with fail
        go_ret2
        exact tellsSE_of rfl hbl
      | succ m =>
        have e : (((m + 1 : Nat) : Int) - 1) = m := by omega
        rw [e]
        have hc := hb.cell m
        rw [putCells_at n k m] at hc
        have hf := hb.frozen m
        have HB := Lib.hid (hb.put m (.int .u8 ((n / 256 ^ (k - (m + 1)) : Nat) % 256 : Int)))
        have HST := Lib.hid (putCells_step n k m (by omega))
        have HL := Lib.hid hbl
        have HD := Lib.hid (show n / 256 ^ (k - (m + 1)) / 256 = n / 256 ^ (k - m) by rw [Be.div_step]; congr 2; omega)
        clear e hb hbl
        generalize n / 256 ^ (k - (m + 1)) = x at *
        go_wp2_with fail
        go_roundw
        case rel => exact ⟨m, by go_num, by rw [← HD.out]; go_num, by omega, by rw [← HST.out]; exact HB.out, HL.out.setCell (Nat.le_refl _) _⟩
        case measure => simp [intOf]
end Go.Proofs.YtjbcbnemdhbhbaaGreatDoor
namespace Go.Proofs.YtjbcbnemdhbhbaaGreatDoor
open Go.RowKit
open Go.PlainAid
set_option maxRecDepth 100000
def numAt (s : ByteArray) (p k : Nat) : Nat := Be.num ((s.data.toList.drop p).take k)
def TellsUE (n : Nat) (w : World) (e : Ending) (w' : World) : Prop := e = .returned (.tuple #[.int .u64 n, .int .i64 0]) ∧ Below w.heap.size w w'
theorem tellsUE_of {n : Nat} {z : Int} {w w' : World} (h : (n : Int) = z) (hb : Below w.heap.size w w') : TellsUE n w (.returned (.tuple #[.int .u64 z, .int .i64 0])) w' := by subst h; exact ⟨rfl, hb⟩
theorem or_step (n c : Nat) (hn : n < 72057594037927936) (hc : c < 256) : bits .or .u64 ((n : Int) * 256) (c : Int) = ((n * 256 + c : Nat) : Int) := by
  have h := u64_or_nat (n * 256) c (by omega) (by omega)
  rw [nat_or_256 n c hc] at h
  rw [← h]
  congr 1
theorem num_take_lt (l : List UInt8) (j : Nat) (hj : j ≤ 7) : Be.num (l.take j) < 72057594037927936 := by
  have h := Be.num_lt (l.take j)
  have h2 : 256 ^ (l.take j).length ≤ 256 ^ 7 := Nat.pow_le_pow_right (by decide) (by rw [List.length_take]; omega)
  have h3 : 256 ^ 7 = 72057594037927936 := by decide
  omega
theorem num_take_snoc (l : List UInt8) (j : Nat) (h : j < l.length) : Be.num (l.take (j + 1)) = Be.num (l.take j) * 256 + l[j].toNat := by
  rw [List.take_succ_eq_append_getElem h, Be.num_snoc]
set_option maxHeartbeats 1000000 in
theorem take_ok (s : ByteArray) (p k : Nat) (w : World) (hs : s.size ≤ 1000000) (h1 : 1 ≤ k) (h8 : k ≤ 8) (hp : p + k ≤ s.size) :
    Calls Tryz.prog 120 #[.string s, .int .i64 p, .int .i64 k] w (TellsUE (numAt s p k) w) := by
  have q1 : decide ((k : Int) < 1) = false := by simp; omega
  have q2 : decide (8 < (k : Int)) = false := by simp; omega
  have q3 : decide ((p : Int) < 0) = false := by simp
  have q4 : p ≤ s.size := by omega
  have q5 : decide ((s.size : Int) - p < k) = false := by simp; omega
  have q6 : decide (s.size < p) = false := by simp; omega
  have hl : (s.extract p (p + k)).data.toList = (s.data.toList.drop p).take k := by rw [extract_list]; congr 1; omega
  have hsz : (s.extract p (p + k)).size = k := by rw [ByteArray.size_extract]; omega
  have HE := Lib.hid (show numAt s p k = Be.num (s.extract p (p + k)).data.toList by unfold numAt; rw [hl])
  obtain ⟨A, cap, W1, hcv, hown, hb1⟩ := conv_bytes (s.extract p (p + k)) (by rw [hsz]; unfold maxLen; omega) w
  rw [hsz] at hcv hown
  obtain ⟨A2, c2, hA2, -, -, -, hsl, -⟩ := hown.slice
  simp only [Value.slice.injEq, true_and] at hA2
  obtain ⟨rfl, rfl⟩ := hA2
  have hlen : (s.extract p (p + k)).data.toList.length = k := by rw [len_size, hsz]
  have HB := Lib.hid hb1
  have HS := Lib.hid hsl
  have HLEN := Lib.hid hlen
  generalize (s.extract p (p + k)).data.toList = l at *
  clear hl hsz hown hb1 hsl hlen
  go_enter Tryz.func120, Tryz.ntmps120
  go_wp2_with fail
  clear hcv
  go_loop [8, 43] (fun x i => ∃ (j : Nat), i = .int .i64 j ∧ x = .int .u64 (Be.num (l.take j) : Nat) ∧ j ≤ k) (fun _ i => k - (intOf i).toNat)
  case atStart => exact ⟨0, rfl, by simp [Be.num], Nat.zero_le _⟩
  case round =>
    obtain ⟨j, rfl, rfl, hj⟩ := hrel
    by_cases hlt : j < k
    · have hjl : j < l.length := by rw [HLEN.out]; exact hlt
      obtain ⟨b, o, rfl, hbl, hc⟩ := HS.out j (.int .u8 (l[j].toNat : Nat)) (by unfold u8s; rw [List.getElem?_map, List.getElem?_eq_getElem hjl]; rfl)
      have HN := Lib.hid (num_take_snoc l j hjl)
      have hx := num_take_lt l j (by omega)
      have e1 := or_step _ _ hx (show l[j].toNat < 256 by have := l[j].toNat_lt; omega)
      have hcl := l[j].toNat_lt
      generalize Be.num (l.take j) = x at *
      generalize l[j].toNat = c at *
      go_wp2_with fail
      go_round
      case rel => exact ⟨j + 1, by go_num, by rw [HN.out]; go_num, by omega⟩
      case measure => simp [intOf]; omega
    · obtain rfl : j = k := by omega
      have HT := Lib.hid (show l.take j = l from List.take_of_length_le (by rw [HLEN.out]; exact Nat.le_refl _))
      go_wp2_with fail
      go_ret2
      exact tellsUE_of (by rw [HE.out, HT.out]) HB.out
end Go.Proofs.YtjbcbnemdhbhbaaGreatDoor

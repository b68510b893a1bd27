/- Merged by program: PlainBer PlainBits Head Words Tree PlainFrame PlainVal Whole PlainNum Weigh Number RNumber Head2 Frame Feed Frame2 FrameNil RefFrame. -/
import Derived.WalkKit
import Derived.PlainAid
import Derived.Test.YtbiglfpikfjbpaaDoorChecked
import Derived.WalkSpells
import Derived.WalkLawsBesides
import Derived.Deep.QuietTactic
import Derived.BigQuiet
import Derived.Lib.Hide
import Derived.Deep.Draws
import Derived.Deep.AppendLies
import Derived.OneCell
import Derived.Laws.Rows
import Derived.Deep.LoopGhost
import Derived.Outline
import Derived.Maps.AppendAt
import Derived.Laws.BytesArg
import Derived.Deep.DeepCutAuto
/- Plain Lean, no program: what the head of a value's bytes says, how long the value is. -/
namespace Go.Proofs.YtbiglfpikfjbpaaDoor
namespace PB

/-- the number of big-endian bytes. -/
def num (l : List UInt8) : Nat := l.foldl (fun n c => n * 256 + c.toNat) 0

theorem num_snoc (l : List UInt8) (c : UInt8) : num (l ++ [c]) = num l * 256 + c.toNat := by
  simp [num]

theorem num_go (l : List UInt8) : ∀ a : Nat, l.foldl (fun n c => n * 256 + c.toNat) a < (a + 1) * 256 ^ l.length := by
  induction l with
  | nil => intro a; simp
  | cons c l ih =>
    intro a
    have h := ih (a * 256 + c.toNat)
    have hc := c.toNat_lt
    have h2 : (a * 256 + c.toNat + 1) * 256 ^ l.length ≤ ((a + 1) * 256) * 256 ^ l.length := Nat.mul_le_mul_right _ (by omega)
    rw [List.foldl_cons, List.length_cons, Nat.pow_succ, Nat.mul_comm (256 ^ l.length) 256, ← Nat.mul_assoc]
    omega

theorem num_lt (l : List UInt8) : num l < 256 ^ l.length := by
  have h := num_go l 0
  rw [Nat.zero_add, Nat.one_mul] at h
  exact h

/-- byte k as a number, nought behind the end. -/
def byt (l : List UInt8) (k : Nat) : Nat := (l.getD k 0).toNat

theorem byt_lt (l : List UInt8) (k : Nat) : byt l k < 256 := (l.getD k 0).toNat_lt

/-- what head tells: place of the body, its length, the error's number. -/
def head (l : List UInt8) : Nat × Nat × Nat :=
  if l.length = 0 then (0, 0, 3) else
  if byt l 0 % 32 = 31 then (0, 0, 4) else
  if l.length < 2 then (0, 0, 3) else
  if byt l 1 < 128 then (2, byt l 1, 0) else
  if byt l 1 = 128 ∨ 132 < byt l 1 then (0, 0, 4) else
  if l.length < 2 + (byt l 1 - 128) then (0, 0, 3) else
  (2 + (byt l 1 - 128), num ((l.drop 2).take (byt l 1 - 128)), 0)

theorem head_le (l : List UInt8) : (head l).1 ≤ 6 ∧ (head l).2.1 < 4294967296 := by
  have hb := byt_lt l 1
  unfold head
  repeat' split
  all_goals first | (refine ⟨?_, ?_⟩ <;> simp only <;> omega) | skip
  rename_i h6
  refine ⟨show 2 + (byt l 1 - 128) ≤ 6 by omega, ?_⟩
  have hl : ((l.drop 2).take (byt l 1 - 128)).length ≤ 4 := by rw [List.length_take, List.length_drop]; omega
  have hp : 256 ^ ((l.drop 2).take (byt l 1 - 128)).length ≤ 256 ^ 4 := Nat.pow_le_pow_right (by omega) hl
  rw [show (256 : Nat) ^ 4 = 4294967296 from by decide] at hp
  have h := num_lt ((l.drop 2).take (byt l 1 - 128))
  generalize 256 ^ ((l.drop 2).take (byt l 1 - 128)).length = x at h hp
  dsimp only
  omega

/-- how many bytes a value has, and the error's number. -/
def total (l : List UInt8) : Nat × Nat :=
  if (head l).2.2 ≠ 0 then (0, (head l).2.2) else
  if 8192 < (head l).1 + (head l).2.1 then (0, 5) else ((head l).1 + (head l).2.1, 0)

end PB
end Go.Proofs.YtbiglfpikfjbpaaDoor
/- Plain facts on bits, bytes and strings, no program: small sums by or, a byte's top bit, a string's bytes as a list. -/
namespace Go.Proofs.YtbiglfpikfjbpaaDoor
open Go.RowKit
open Go.PlainAid

theorem wraps_i64 (n : Int) (h₀ : 0 ≤ n) (h₁ : n < 2 ^ 40) : IntKind.i64.wrap n = n := by rw [IntKind.wrap_i64]; omega
theorem wraps_u64 (n : Int) (h₀ : 0 ≤ n) (h₁ : n < 2 ^ 64) : IntKind.u64.wrap n = n := by rw [IntKind.wrap_u64]; omega

theorem nat_or_256 (n c : Nat) (hc : c < 256) : n * 256 ||| c = n * 256 + c := by
  have h := Nat.two_pow_add_eq_or_of_lt (i := 8) (b := c) (by simpa using hc) n
  have e : (2 : Nat) ^ 8 * n = n * 256 := by omega
  rw [e] at h
  exact h.symm

theorem i64_or_256 (n c : Int) (h0 : 0 ≤ n) (h1 : n < 16777216) (h2 : 0 ≤ c) (h3 : c ≤ 255) : bits BinOp.or IntKind.i64 (n * 256) c = n * 256 + c := by
  obtain ⟨a, rfl⟩ := Int.eq_ofNat_of_zero_le h0
  obtain ⟨b, rfl⟩ := Int.eq_ofNat_of_zero_le h2
  have h4 : a * 256 < 2 ^ 40 := by omega
  have h5 : b < 2 ^ 40 := by omega
  have h := (bits_nat .i64 40 (by decide) wraps_i64 (a * 256) b h4 h5).2
  rw [nat_or_256 a b (by omega)] at h
  have e : ((a * 256 : Nat) : Int) = (a : Int) * 256 := by omega
  rw [Int.natCast_add, e] at h
  exact h

theorem u8_top (c : Int) (h1 : 128 ≤ c) (h2 : c ≤ 255) : bits BinOp.andNot IntKind.u8 c 128 = c - 128 := by
  obtain ⟨a, rfl⟩ := Int.eq_ofNat_of_zero_le (show 0 ≤ c by omega)
  have h := u8_andNot_nat a 128 (by omega) (by omega)
  have e : a &&& 127 = a % 128 := Nat.and_two_pow_sub_one_eq_mod a 7
  rw [show 255 - 128 = 127 from rfl, e] at h
  exact h.trans (by omega)

theorem nonempty {s : ByteArray} (h : 0 < s.size) : s.toList.isEmpty = false := by
  rw [ByteArray.toList_eq]
  cases hl : s.data.toList with
  | nil => exfalso; have : s.data.toList.length = s.size := rfl; rw [hl] at this; simp at this; omega
  | cons _ _ => rfl

/-- Byte k of a string as its list has it. -/
theorem bt_list (s : ByteArray) (k : Nat) : bt s k = ((s.data.toList.getD k 0).toNat : Int) := by
  unfold bt
  split
  · rename_i h
    have h' : k < s.data.toList.length := by simpa using h
    rw [List.getD_eq_getElem?_getD, List.getElem?_eq_getElem h']
    rfl
  · rename_i h
    rw [List.getD_eq_getElem?_getD, List.getElem?_eq_none (by simpa using h)]
    rfl

end Go.Proofs.YtbiglfpikfjbpaaDoor
/- Contracts: ber.head and the reference's Head tell PB.head of the string's bytes; ber.Length and the reference's Total tell PB.total. For every string of the model. -/
namespace Go.Proofs.YtbiglfpikfjbpaaDoor
open Go.RowKit
open Go.PlainAid

/-- A call that tells three ints and leaves memory as it is. -/
def Tells3 (a b c : Int) (w : World) (e : Ending) (w' : World) : Prop := e = .returned (.tuple #[.int .i64 a, .int .i64 b, .int .i64 c]) ∧ ∃ n, w' = w.drewN n
/-- A call that tells two ints and leaves memory as it is. -/
def Tells2 (a b : Int) (w : World) (e : Ending) (w' : World) : Prop := e = .returned (.tuple #[.int .i64 a, .int .i64 b]) ∧ ∃ n, w' = w.drewN n

theorem byt_bt (s : ByteArray) (k : Nat) : bt s k = (PB.byt s.data.toList k : Int) := bt_list s k
theorem len_size (s : ByteArray) : s.data.toList.length = s.size := rfl

theorem take_next (s : ByteArray) (j : Nat) (h : 2 + j < s.size) : (s.data.toList.drop 2).take (j + 1) = (s.data.toList.drop 2).take j ++ [s.data.toList.getD (2 + j) 0] := by
  have h' : j < (s.data.toList.drop 2).length := by rw [List.length_drop, len_size]; omega
  rw [List.take_succ_eq_append_getElem h', List.getElem_drop, List.getD_eq_getElem?_getD, List.getElem?_eq_getElem (by rw [len_size]; omega)]
  rfl

theorem num_next (s : ByteArray) (j : Nat) (h : 2 + j < s.size) : (PB.num ((s.data.toList.drop 2).take (j + 1)) : Int) = (PB.num ((s.data.toList.drop 2).take j) : Int) * 256 + bt s (2 + j) := by
  rw [take_next s j h, PB.num_snoc, byt_bt]
  unfold PB.byt
  omega

theorem num_small (s : ByteArray) (j : Nat) (h : j ≤ 3) : PB.num ((s.data.toList.drop 2).take j) < 16777216 := by
  have h1 := PB.num_lt ((s.data.toList.drop 2).take j)
  have hl : ((s.data.toList.drop 2).take j).length ≤ 3 := by rw [List.length_take]; omega
  have hp : 256 ^ ((s.data.toList.drop 2).take j).length ≤ 256 ^ 3 := Nat.pow_le_pow_right (by omega) hl
  rw [show (256 : Nat) ^ 3 = 16777216 from by decide] at hp
  generalize 256 ^ ((s.data.toList.drop 2).take j).length = x at h1 hp
  omega

/- ber.head, way by way -/

set_option maxRecDepth 100000 in
theorem head_nil (s : ByteArray) (w : World) (h0 : s.size = 0) :
    Calls Tryd.prog 72 #[.string s] w (Tells3 0 0 3 w) := by
  obtain rfl : s = ByteArray.empty := by simpa [ByteArray.size_eq_zero_iff] using h0
  go_enter Tryd.func72, Tryd.ntmps72
  go_wp2
  go_ret3
  exact ⟨rfl, 0, rfl⟩

set_option maxRecDepth 100000 in
theorem head_form (s : ByteArray) (w : World) (h0 : 0 < s.size) (h1 : bt s 0 % 32 = 31) :
    Calls Tryd.prog 72 #[.string s] w (Tells3 0 0 4 w) := by
  have hne := nonempty h0
  have hg := get_bt s 0 h0
  have e0 := u8_and31 _ (bt_nonneg s 0) (by have := bt_le s 0; omega)
  have h1' : (bt s 0 % 32 == 31) = true := by simp [h1]
  clear h1
  go_enter Tryd.func72, Tryd.ntmps72
  go_wp2_with fail
  go_ret3
  exact ⟨rfl, 0, rfl⟩

set_option maxRecDepth 100000 in
theorem head_one (s : ByteArray) (w : World) (h0 : 0 < s.size) (h2 : s.size < 2) (h1 : bt s 0 % 32 ≠ 31) :
    Calls Tryd.prog 72 #[.string s] w (Tells3 0 0 3 w) := by
  have hne := nonempty h0
  have hg := get_bt s 0 h0
  have e0 := u8_and31 _ (bt_nonneg s 0) (by have := bt_le s 0; omega)
  have h1' : (bt s 0 % 32 == 31) = false := by simp [h1]
  clear h1
  go_enter Tryd.func72, Tryd.ntmps72
  go_wp2_with fail
  go_ret3
  exact ⟨rfl, 0, rfl⟩

set_option maxRecDepth 100000 in
theorem head_small (s : ByteArray) (w : World) (hs : s.size ≤ maxLen) (h0 : 2 ≤ s.size) (h1 : bt s 0 % 32 ≠ 31) (h2 : bt s 1 < 128) :
    Calls Tryd.prog 72 #[.string s] w (Tells3 2 (bt s 1) 0 w) := by
  unfold maxLen at hs
  have hne := nonempty (s := s) (by omega)
  have hg := get_bt s 0 (by omega)
  have hg1 := get_bt s 1 (by omega)
  have e0 := u8_and31 _ (bt_nonneg s 0) (by have := bt_le s 0; omega)
  have h1' : (bt s 0 % 32 == 31) = false := by simp [h1]
  have h3 : 0 < s.size := by omega
  have h4 : 1 < s.size := by omega
  have b1 := bt_nonneg s 1
  have b2 := bt_le s 1
  clear h1
  go_enter Tryd.func72, Tryd.ntmps72
  go_wp2_with fail
  go_quiet (fail)
  go_wp2_with fail
  go_ret3
  exact ⟨rfl, _, rfl⟩

set_option maxRecDepth 100000 in
theorem head_none (s : ByteArray) (w : World) (hs : s.size ≤ maxLen) (h0 : 2 ≤ s.size) (h1 : bt s 0 % 32 ≠ 31) (h2 : 128 ≤ bt s 1) (h5 : bt s 1 = 128 ∨ 132 < bt s 1) :
    Calls Tryd.prog 72 #[.string s] w (Tells3 0 0 4 w) := by
  unfold maxLen at hs
  have hne := nonempty (s := s) (by omega)
  have hg := get_bt s 0 (by omega)
  have hg1 := get_bt s 1 (by omega)
  have e0 := u8_and31 _ (bt_nonneg s 0) (by have := bt_le s 0; omega)
  have h1' : (bt s 0 % 32 == 31) = false := by simp [h1]
  have h3 : 0 < s.size := by omega
  have h4 : 1 < s.size := by omega
  have b2 := bt_le s 1
  have e1 := u8_top (bt s 1) h2 b2
  clear h1
  rcases h5 with h5 | h5
  · have h6 : (bt s 1 - 128 == 0) = true := by simp; omega
    have h7 : 0 ≤ bt s 1 - 128 := by omega
    clear h5
    go_enter Tryd.func72, Tryd.ntmps72
    go_wp2_with fail
    go_ret3
    exact ⟨rfl, 0, rfl⟩
  · have h6 : (bt s 1 - 128 == 0) = false := by simp; omega
    have h8 : decide (4 < bt s 1 - 128) = true := by simp; omega
    go_enter Tryd.func72, Tryd.ntmps72
    go_wp2_with fail
    go_ret3
    exact ⟨rfl, 0, rfl⟩

set_option maxRecDepth 100000 in
theorem head_cut (s : ByteArray) (w : World) (hs : s.size ≤ maxLen) (h0 : 2 ≤ s.size) (h1 : bt s 0 % 32 ≠ 31) (h2 : 128 < bt s 1) (h5 : bt s 1 ≤ 132) (h9 : s.size < 2 + (bt s 1 - 128)) :
    Calls Tryd.prog 72 #[.string s] w (Tells3 0 0 3 w) := by
  unfold maxLen at hs
  have hne := nonempty (s := s) (by omega)
  have hg := get_bt s 0 (by omega)
  have hg1 := get_bt s 1 (by omega)
  have e0 := u8_and31 _ (bt_nonneg s 0) (by have := bt_le s 0; omega)
  have h1' : (bt s 0 % 32 == 31) = false := by simp [h1]
  have h3 : 0 < s.size := by omega
  have h4 : 1 < s.size := by omega
  have b2 := bt_le s 1
  have e1 := u8_top (bt s 1) (by omega) b2
  have h6 : (bt s 1 - 128 == 0) = false := by simp; omega
  have h8 : decide (4 < bt s 1 - 128) = false := by simp; omega
  clear h1
  go_enter Tryd.func72, Tryd.ntmps72
  go_wp2_with fail
  go_ret3
  exact ⟨rfl, 0, rfl⟩

set_option maxRecDepth 100000 in
theorem head_long (s : ByteArray) (w : World) (k : Nat) (hs : s.size ≤ maxLen) (h0 : 2 ≤ s.size) (h1 : bt s 0 % 32 ≠ 31) (hk1 : 0 < k) (hk4 : k ≤ 4) (hk : bt s 1 = 128 + k) (h9 : 2 + k ≤ s.size) :
    Calls Tryd.prog 72 #[.string s] w (Tells3 (2 + k) (PB.num ((s.data.toList.drop 2).take k)) 0 w) := by
  unfold maxLen at hs
  have hne := nonempty (s := s) (by omega)
  have hg := get_bt s 0 (by omega)
  have hg1 := get_bt s 1 (by omega)
  have e0 := u8_and31 _ (bt_nonneg s 0) (by have := bt_le s 0; omega)
  have h1' : (bt s 0 % 32 == 31) = false := by simp [h1]
  have h3 : 0 < s.size := by omega
  have h4 : 1 < s.size := by omega
  have b2 := bt_le s 1
  have e1 : bits BinOp.andNot IntKind.u8 (bt s 1) 128 = k := by rw [u8_top (bt s 1) (by omega) b2]; omega
  have h6 : ((k : Int) == 0) = false := by simp; omega
  have h8 : decide (4 < (k : Int)) = false := by simp; omega
  have h10 : ¬ bt s 1 < 128 := by omega
  have h11 : decide ((s.size : Int) < 2) = false := by simp; omega
  have h12 : decide ((s.size : Int) < 2 + k) = false := by simp; omega
  clear h1 hk
  go_enter Tryd.func72, Tryd.ntmps72
  go_wp2_with fail
  go_loop [6, 45] (fun n i => ∃ j : Nat, j ≤ k ∧ i = .int .i64 j ∧ n = .int .i64 (PB.num ((s.data.toList.drop 2).take j))) (fun _ i => k - (intOf i).toNat)
  case atStart => exact ⟨0, Nat.zero_le _, rfl, rfl⟩
  case round =>
    obtain ⟨j, hj, rfl, rfl⟩ := hrel
    by_cases hlt : j < k
    · have hlt' : decide ((j : Int) < k) = true := by simp; omega
      have hb := get_bt s (2 + j) (by omega)
      have hb1 := bt_nonneg s (2 + j)
      have hb2 := bt_le s (2 + j)
      have hi : 2 + j < s.size := by omega
      have HX := Lib.hid (num_next s j hi)
      have hnlt := num_small s j (by omega)
      obtain ⟨n, hn⟩ : ∃ n, n = PB.num ((s.data.toList.drop 2).take j) := ⟨_, rfl⟩
      rw [← hn] at HX hnlt ⊢
      have HY := Lib.hid (i64_or_256 n (bt s (2 + j)) (by omega) (by omega) hb1 hb2)
      clear hn
      go_wp2_with fail
      go_round
      case rel => exact ⟨j + 1, by omega, by go_num, by rw [HY.out, HX.out]⟩
      case measure => simp [intOf]; omega
    · have hlt' : decide ((j : Int) < k) = false := by simp; omega
      obtain rfl : j = k := by omega
      go_wp2_with fail
      go_ret3
      exact ⟨rfl, 0, rfl⟩

theorem head_any (s : ByteArray) (w : World) (hs : s.size ≤ maxLen) :
    Calls Tryd.prog 72 #[.string s] w (Tells3 (PB.head s.data.toList).1 (PB.head s.data.toList).2.1 (PB.head s.data.toList).2.2 w) := by
  unfold PB.head
  have t0 := byt_bt s 0
  have t1 := byt_bt s 1
  rw [len_size]
  split
  · exact head_nil s w (by omega)
  split
  · exact head_form s w (by omega) (by omega)
  split
  · exact head_one s w (by omega) (by omega) (by omega)
  split
  · have h := head_small s w hs (by omega) (by omega) (by omega)
    rw [t1] at h
    exact h
  split
  · exact head_none s w hs (by omega) (by omega) (by omega) (by omega)
  split
  · exact head_cut s w hs (by omega) (by omega) (by omega) (by omega) (by omega)
  · have h := head_long s w (PB.byt s.data.toList 1 - 128) hs (by omega) (by omega) (by omega) (by omega) (by omega) (by omega)
    have e : ((2 + (PB.byt s.data.toList 1 - 128) : Nat) : Int) = 2 + ((PB.byt s.data.toList 1 - 128 : Nat) : Int) := by omega
    simp only [e]
    exact h

end Go.Proofs.YtbiglfpikfjbpaaDoor
/- Words for memory, over any program: a block known whole, worlds that differ in named blocks alone, slices that read as lists. -/
namespace Go.Proofs.YtbiglfpikfjbpaaDoor
open Go.RowKit

/-- Block g is just these cells of type t, none of them frozen. -/
def Bk (w : World) (g : Nat) (t : TypeId) (cs : Array Value) : Prop := w.heap[g]? = some (.cells cs t (0, 0))

theorem Bk.lt {w : World} {g : Nat} {t : TypeId} {cs : Array Value} (h : Bk w g t cs) : g < w.heap.size := lt_of_block h
theorem Bk.cell {w : World} {g : Nat} {t : TypeId} {cs : Array Value} (h : Bk w g t cs) (i : Nat) : w.cell? ⟨g, i, none⟩ = cs[i]? := cell_of_row w g i cs t (0, 0) h
theorem Bk.frozen {w : World} {g : Nat} {t : TypeId} {cs : Array Value} (h : Bk w g t cs) (i : Nat) : w.frozen? ⟨g, i, none⟩ = false := by
  unfold Bk at h
  simp [World.frozen?, h]
theorem Bk.drewN {w : World} {g : Nat} {t : TypeId} {cs : Array Value} (h : Bk w g t cs) (n : Nat) : Bk (w.drewN n) g t cs := h
theorem Bk.drew {w : World} {g : Nat} {t : TypeId} {cs : Array Value} (h : Bk w g t cs) : Bk w.drew g t cs := h
theorem Bk.alloc {w : World} {g : Nat} {t : TypeId} {cs : Array Value} (h : Bk w g t cs) (o : Obj) : Bk (w.alloc o) g t cs := (Below.heap_alloc w o g h.lt).trans h
theorem Bk.new (w : World) (t : TypeId) (cs : Array Value) : Bk (w.alloc (.cells cs t)) w.heap.size t cs := heap_alloc_new w _
theorem Bk.put {w : World} {g : Nat} {t : TypeId} {cs : Array Value} (h : Bk w g t cs) (i : Nat) (u : Value) : Bk (w.setCell ⟨g, i, none⟩ u) g t (cs.setIfInBounds i u) := by
  unfold Bk at h ⊢
  simp [World.setCell, Array.getElem?_modify, h]
theorem Bk.far {w : World} {g : Nat} {t : TypeId} {cs : Array Value} (h : Bk w g t cs) {p : Addr} (hp : g ≠ p.block) (u : Value) : Bk (w.setCell p u) g t cs := (Below.heap_setCell w p u g hp).trans h
/-- Blocks of two element types are two. -/
theorem Bk.ne {w : World} {g g' : Nat} {t t' : TypeId} {cs cs' : Array Value} (h : Bk w g t cs) (h' : Bk w g' t' cs') (hne : t ≠ t') : g ≠ g' := by
  rintro rfl
  unfold Bk at h h'
  rw [h] at h'
  injection h' with h'
  injection h' with _ ht
  exact hne ht
theorem own_ne {w : World} {g base : Nat} {t e : TypeId} {size n : Nat} {v : Value} {xs : List Value} {cs : Array Value} (h : w.ownsRow base e size v n xs) (hg : Bk w g t cs) (hne : e ≠ t) : v.ownBlock ≠ some g := by
  rcases h.2 with ⟨rfl, _⟩ | ⟨g', cap, cur, rfl, _, hh, _⟩
  · simp [Value.ownBlock]
  · intro he
    obtain rfl : g' = g := by simpa [Value.ownBlock] using he
    exact Bk.ne (t := e) hh hg hne rfl

/-- Of the blocks that were there only those of S may have turned; the streams are as they were. -/
structure Off (S : List Nat) (w w' : World) : Prop where
  os : w'.os = w.os
  tape : w'.tape = w.tape
  output : w'.output = w.output
  size : w.heap.size ≤ w'.heap.size
  block : ∀ k, k < w.heap.size → k ∉ S → w'.heap[k]? = w.heap[k]?

theorem Off.refl (S : List Nat) (w : World) : Off S w w := ⟨rfl, rfl, rfl, Nat.le_refl _, fun _ _ _ => rfl⟩
theorem Off.trans {S : List Nat} {a b c : World} (h : Off S a b) (k : Off S b c) : Off S a c :=
  ⟨k.os.trans h.os, k.tape.trans h.tape, k.output.trans h.output, Nat.le_trans h.size k.size, fun i hi hn => (k.block i (Nat.lt_of_lt_of_le hi h.size) hn).trans (h.block i hi hn)⟩
/-- A second step may turn blocks that are new, besides. -/
theorem Off.then {S T : List Nat} {a b c : World} (h : Off S a b) (k : Off T b c) (hT : ∀ g ∈ T, g ∈ S ∨ a.heap.size ≤ g) : Off S a c :=
  ⟨k.os.trans h.os, k.tape.trans h.tape, k.output.trans h.output, Nat.le_trans h.size k.size, fun i hi hn =>
    (k.block i (Nat.lt_of_lt_of_le hi h.size) (fun ht => (hT i ht).elim hn (fun h1 => absurd hi (by omega)))).trans (h.block i hi hn)⟩
theorem Off.mono {S T : List Nat} {a b : World} (h : Off S a b) (hT : ∀ g ∈ S, g ∈ T ∨ a.heap.size ≤ g) : Off T a b :=
  ⟨h.os, h.tape, h.output, h.size, fun i hi hn => h.block i hi (fun ht => (hT i ht).elim hn (fun h1 => absurd hi (by omega)))⟩
theorem Off.drew {S : List Nat} {a w : World} (h : Off S a w) : Off S a w.drew := ⟨h.os, h.tape, h.output, h.size, h.block⟩
theorem Off.drewN {S : List Nat} {a w : World} (h : Off S a w) (n : Nat) : Off S a (w.drewN n) := ⟨h.os, h.tape, h.output, h.size, h.block⟩
theorem Off.alloc {S : List Nat} {a w : World} (h : Off S a w) (o : Obj) : Off S a (w.alloc o) :=
  ⟨h.os, h.tape, h.output, Nat.le_trans h.size (by simp), fun i hi hn => (Below.heap_alloc w o i (Nat.lt_of_lt_of_le hi h.size)).trans (h.block i hi hn)⟩
theorem Off.setCell {S : List Nat} {a w : World} (h : Off S a w) {p : Addr} (hp : p.block ∈ S ∨ a.heap.size ≤ p.block) (u : Value) : Off S a (w.setCell p u) :=
  ⟨h.os, h.tape, h.output, by simpa [World.setCell] using h.size, fun i hi hn => (Below.heap_setCell w p u i (by
    rintro rfl
    rcases hp with hp | hp
    · exact hn hp
    · omega)).trans (h.block i hi hn)⟩
theorem Off.grown {S : List Nat} {a w w' : World} {row : Option Nat} (h : Off S a w) (hg : w.grownBy w' row) (hr : ∀ g, row = some g → g ∈ S ∨ a.heap.size ≤ g) : Off S a w' :=
  ⟨hg.os.trans h.os, hg.tape.trans h.tape, hg.output.trans h.output, Nat.le_trans h.size hg.size, fun i hi hn =>
    (hg.block i (Nat.lt_of_lt_of_le hi h.size) (fun e => (hr i e.symm).elim hn (fun h1 => absurd hi (by omega)))).trans (h.block i hi hn)⟩
theorem Off.of_below {w w' : World} (h : Below w.heap.size w w') (S : List Nat) : Off S w w' := ⟨h.os, h.tape, h.output, h.size, fun i hi _ => h.block i hi⟩
/-- Where all of S is new, what was there below B is as it was. -/
theorem Off.below {S : List Nat} {w w' : World} (h : Off S w w') {B : Nat} (hB : B ≤ w.heap.size) (hS : ∀ g ∈ S, B ≤ g) : Below B w w' :=
  ⟨h.os, h.tape, h.output, h.size, fun i hi => h.block i (by omega) (fun hs => by have := hS i hs; omega)⟩
theorem Off.bk {S : List Nat} {w w' : World} (h : Off S w w') {g : Nat} {t : TypeId} {cs : Array Value} (hb : Bk w g t cs) (hg : g ∉ S) : Bk w' g t cs := (h.block g hb.lt hg).trans hb
theorem Off.cell {S : List Nat} {w w' : World} (h : Off S w w') {p : Addr} (hp : p.block < w.heap.size) (hn : p.block ∉ S) : w'.cell? p = w.cell? p := World.cell?_of_block (h.block p.block hp hn)
theorem Off.own {S : List Nat} {w w' : World} (h : Off S w w') {base : Nat} {e : TypeId} {size n : Nat} {v : Value} {xs : List Value} (ho : w.ownsRow base e size v n xs) (hn : ∀ g, v.ownBlock = some g → g ∉ S) : w'.ownsRow base e size v n xs := by
  obtain ⟨h1, h2⟩ := ho
  refine ⟨h1, ?_⟩
  rcases h2 with h2 | ⟨g, cap, cur, rfl, hb, hh, r⟩
  · exact Or.inl h2
  · exact Or.inr ⟨g, cap, cur, rfl, hb, (h.block g (lt_of_block hh) (hn g rfl)).trans hh, r⟩

theorem own_mono {w : World} {base base' : Nat} {e : TypeId} {size n : Nat} {v : Value} {xs : List Value} (ho : w.ownsRow base e size v n xs) (h : base' ≤ base) : w.ownsRow base' e size v n xs := by
  obtain ⟨h1, h2⟩ := ho
  refine ⟨h1, ?_⟩
  rcases h2 with h2 | ⟨g, cap, cur, rfl, hb, r⟩
  · exact Or.inl h2
  · exact Or.inr ⟨g, cap, cur, rfl, by omega, r⟩

/-- A slice that begins at A holds these cells (each element one cell). -/
def Sl (w : World) (A : Option Addr) (xs : List Value) : Prop := ∀ (j : Nat) (u : Value), xs[j]? = some u → ∃ b o, A = some ⟨b, o, none⟩ ∧ b < w.heap.size ∧ w.cell? ⟨b, o + j, none⟩ = some u

theorem Sl.nil (w : World) (A : Option Addr) : Sl w A [] := fun j u h => by simp at h
theorem Sl.off {S : List Nat} {w w' : World} {A : Option Addr} {xs : List Value} (h : Sl w A xs) (ho : Off S w w') (hn : ∀ a, A = some a → a.block ∉ S) : Sl w' A xs := by
  intro j u hu
  obtain ⟨b, o, rfl, hb, hc⟩ := h j u hu
  exact ⟨b, o, rfl, Nat.lt_of_lt_of_le hb ho.size, (ho.cell (p := ⟨b, o + j, none⟩) hb (hn ⟨b, o, none⟩ rfl)).trans hc⟩
theorem Sl.below {w w' : World} {A : Option Addr} {xs : List Value} (h : Sl w A xs) (ho : Below w.heap.size w w') : Sl w' A xs := by
  intro j u hu
  obtain ⟨b, o, rfl, hb, hc⟩ := h j u hu
  exact ⟨b, o, rfl, Nat.lt_of_lt_of_le hb ho.size, (ho.cell (p := ⟨b, o + j, none⟩) hb).trans hc⟩
theorem Sl.drewN {w : World} {A : Option Addr} {xs : List Value} (h : Sl w A xs) (n : Nat) : Sl (w.drewN n) A xs := h
theorem Sl.of_own {w : World} {base : Nat} {e : TypeId} {n n' c : Nat} {A : Option Addr} {xs : List Value} (h : w.ownsRow base e 1 (.slice A n' c) n xs) : Sl w A xs := by
  intro j u hu
  have hj : j < xs.length := (List.getElem?_eq_some_iff.1 hu).1
  have hl := h.1
  obtain ⟨g, cap, hv, _, hlt⟩ := h.form (by omega)
  injection hv with hA
  subst hA
  refine ⟨g, 0, rfl, hlt, ?_⟩
  have h1 := h.cells (g := g) rfl j u hu
  have e : (⟨g, 0, none⟩ : Addr).add j = ⟨g, 0 + j, none⟩ := by
    unfold Addr.add
    by_cases h0 : j = 0 <;> simp [h0]
  rw [e] at h1
  exact h1

/-- A row of the call's own as a slice's parts. -/
theorem own_slice {w : World} {base : Nat} {e : TypeId} {n : Nat} {v : Value} {xs : List Value} (h : w.ownsRow base e 1 v n xs) :
    ∃ (A : Option Addr) (c : Nat), v = .slice A n c ∧ n ≤ c ∧ c ≤ maxLen ∧ n = xs.length ∧ Sl w A xs ∧ ∀ a, A = some a → base ≤ a.block ∧ v.ownBlock = some a.block := by
  have h0 := h
  obtain ⟨h1, h2⟩ := h
  rcases h2 with ⟨rfl, rfl⟩ | ⟨g, cap, cur, rfl, hb, hh, hc, hm, r⟩
  · exact ⟨none, 0, rfl, Nat.le_refl _, Nat.zero_le _, by omega, Sl.of_own h0, fun a ha => by cases ha⟩
  · exact ⟨some ⟨g, 0, none⟩, cap, rfl, hc, hm, by omega, Sl.of_own h0, fun a ha => by cases ha; exact ⟨hb, rfl⟩⟩

end Go.Proofs.YtbiglfpikfjbpaaDoor
/- Values of api.Tlv as trees, and how a tree lies in memory. -/
namespace Go.Proofs.YtbiglfpikfjbpaaDoor
open Go.RowKit

/-- A value: class, made of values?, tag, bytes, the values within. -/
inductive Tl where
  | mk (cls : Int) (cons : Bool) (tag : Int) (body : ByteArray) (kids : List Tl)

mutual
/-- These five cells are the tree, whose rows lie in blocks of S. -/
def TlAt (w : World) (S : Nat → Prop) : Tl → Array Value → Prop
  | .mk c k t b ks, cs => ∃ (A : Option Addr) (cap : Nat), cs = #[.int .i64 c, .bool k, .int .i64 t, .string b, .slice A ks.length cap] ∧ (ks.length ≤ cap ∧ cap ≤ maxLen) ∧ (Lit.int .i64 c).wf = true ∧ (Lit.int .i64 t).wf = true ∧ b.size ≤ maxLen ∧ KsAt w S ks A 0
/-- From place j on there lie these trees. -/
def KsAt (w : World) (S : Nat → Prop) : List Tl → Option Addr → Nat → Prop
  | [], _, _ => True
  | k :: ks, A, j => (∃ (b o : Nat) (c0 c1 c2 c3 c4 : Value), A = some ⟨b, o, none⟩ ∧ (S b ∧ b < w.heap.size) ∧ w.cell? ⟨b, o + j * 5, none⟩ = some c0 ∧ w.cell? ⟨b, o + j * 5 + 1, none⟩ = some c1 ∧ w.cell? ⟨b, o + j * 5 + 2, none⟩ = some c2 ∧
      w.cell? ⟨b, o + j * 5 + 3, none⟩ = some c3 ∧ w.cell? ⟨b, o + j * 5 + 4, none⟩ = some c4 ∧ TlAt w S k #[c0, c1, c2, c3, c4]) ∧ KsAt w S ks A (j + 1)
end

mutual
/-- how deep a tree is. -/
def Tl.rank : Tl → Nat
  | .mk _ _ _ _ ks => Tl.ranks ks + 1
def Tl.ranks : List Tl → Nat
  | [] => 0
  | k :: ks => max k.rank (Tl.ranks ks)
end

theorem Tl.rank_mem {k : Tl} : ∀ {ks : List Tl}, k ∈ ks → k.rank ≤ Tl.ranks ks
  | [], h => by cases h
  | x :: ks, h => by
    rcases List.mem_cons.1 h with rfl | h
    · simp only [Tl.ranks]; omega
    · have := Tl.rank_mem h; simp only [Tl.ranks]; omega

mutual
/-- What keeps the blocks of S keeps the tree; it lies in T, too, where S is within T. -/
theorem TlAt.keep {w w' : World} {S T : Nat → Prop} (hs : w.heap.size ≤ w'.heap.size) (hk : ∀ b, S b → b < w.heap.size → w'.heap[b]? = w.heap[b]?) (hT : ∀ b, S b → b < w.heap.size → T b) : ∀ (t : Tl) (cs : Array Value), TlAt w S t cs → TlAt w' T t cs
  | .mk c k t b ks, cs, h => by
    unfold TlAt at h ⊢
    obtain ⟨A, cap, h1, h2, h3, h4, h5, h6⟩ := h
    exact ⟨A, cap, h1, h2, h3, h4, h5, KsAt.keep hs hk hT ks A 0 h6⟩
theorem KsAt.keep {w w' : World} {S T : Nat → Prop} (hs : w.heap.size ≤ w'.heap.size) (hk : ∀ b, S b → b < w.heap.size → w'.heap[b]? = w.heap[b]?) (hT : ∀ b, S b → b < w.heap.size → T b) : ∀ (ks : List Tl) (A : Option Addr) (j : Nat), KsAt w S ks A j → KsAt w' T ks A j
  | [], _, _, _ => by unfold KsAt; trivial
  | k :: ks, A, j, h => by
    unfold KsAt at h ⊢
    obtain ⟨⟨b, o, c0, c1, c2, c3, c4, hA, hlt, q0, q1, q2, q3, q4, ht⟩, hr⟩ := h
    have hc : ∀ o', w'.cell? ⟨b, o', none⟩ = w.cell? ⟨b, o', none⟩ := fun o' => World.cell?_of_block (a := ⟨b, o', none⟩) (hk b hlt.1 hlt.2)
    exact ⟨⟨b, o, c0, c1, c2, c3, c4, hA, ⟨hT b hlt.1 hlt.2, Nat.lt_of_lt_of_le hlt.2 hs⟩, (hc _).trans q0, (hc _).trans q1, (hc _).trans q2, (hc _).trans q3, (hc _).trans q4, TlAt.keep hs hk hT k _ ht⟩, KsAt.keep hs hk hT ks A (j + 1) hr⟩
end

theorem TlAt.below {w w' : World} {S : Nat → Prop} (hb : Below w.heap.size w w') (t : Tl) (cs : Array Value) (h : TlAt w S t cs) : TlAt w' S t cs :=
  TlAt.keep hb.size (fun b _ hlt => hb.block b hlt) (fun _ h _ => h) t cs h
theorem KsAt.below {w w' : World} {S : Nat → Prop} (hb : Below w.heap.size w w') (ks : List Tl) (A : Option Addr) (j : Nat) (h : KsAt w S ks A j) : KsAt w' S ks A j :=
  KsAt.keep hb.size (fun b _ hlt => hb.block b hlt) (fun _ h _ => h) ks A j h

/-- The tree at a place. -/
theorem KsAt.get {w : World} {S : Nat → Prop} : ∀ {ks : List Tl} {A : Option Addr} {j : Nat}, KsAt w S ks A j → ∀ (i : Nat) (h : i < ks.length), ∃ (b o : Nat) (c0 c1 c2 c3 c4 : Value), A = some ⟨b, o, none⟩ ∧ (S b ∧ b < w.heap.size) ∧
    w.cell? ⟨b, o + (j + i) * 5, none⟩ = some c0 ∧ w.cell? ⟨b, o + (j + i) * 5 + 1, none⟩ = some c1 ∧ w.cell? ⟨b, o + (j + i) * 5 + 2, none⟩ = some c2 ∧ w.cell? ⟨b, o + (j + i) * 5 + 3, none⟩ = some c3 ∧ w.cell? ⟨b, o + (j + i) * 5 + 4, none⟩ = some c4 ∧
    TlAt w S ks[i] #[c0, c1, c2, c3, c4]
  | [], _, _, _, _, h => by simp at h
  | k :: ks, A, j, hk, i, h => by
    unfold KsAt at hk
    obtain ⟨h0, hr⟩ := hk
    cases i with
    | zero => simpa using h0
    | succ i =>
      have := KsAt.get hr i (by simpa using h)
      rw [show j + 1 + i = j + (i + 1) by omega] at this
      simpa using this

end Go.Proofs.YtbiglfpikfjbpaaDoor
/- Plain Lean, no program: a stream of values, cut at once or byte by byte: the same values are told. -/
namespace Go.Proofs.YtbiglfpikfjbpaaDoor
namespace PB

theorem byt_app (a t : List UInt8) (k : Nat) (h : k < a.length) : byt (a ++ t) k = byt a k := by
  unfold byt
  rw [List.getD_eq_getElem?_getD, List.getD_eq_getElem?_getD, List.getElem?_append_left h]

/-- What is told of a beginning, but that it is too short, is told of the whole. -/
theorem head_app (a t : List UInt8) (h : (head a).2.2 ≠ 3) : head (a ++ t) = head a := by
  unfold head at h ⊢
  by_cases h0 : a.length = 0
  · rw [if_pos h0] at h; exact absurd rfl h
  have h0' : ¬ (a ++ t).length = 0 := by rw [List.length_append]; omega
  rw [if_neg h0] at h ⊢
  rw [if_neg h0', byt_app a t 0 (by omega)]
  by_cases h1 : byt a 0 % 32 = 31
  · rw [if_pos h1, if_pos h1]
  rw [if_neg h1] at h ⊢
  rw [if_neg h1]
  by_cases h2 : a.length < 2
  · rw [if_pos h2] at h; exact absurd rfl h
  have h2' : ¬ (a ++ t).length < 2 := by rw [List.length_append]; omega
  rw [if_neg h2] at h ⊢
  rw [if_neg h2', byt_app a t 1 (by omega)]
  by_cases h3 : byt a 1 < 128
  · rw [if_pos h3, if_pos h3]
  rw [if_neg h3] at h ⊢
  rw [if_neg h3]
  by_cases h4 : byt a 1 = 128 ∨ 132 < byt a 1
  · rw [if_pos h4, if_pos h4]
  rw [if_neg h4] at h ⊢
  rw [if_neg h4]
  by_cases h5 : a.length < 2 + (byt a 1 - 128)
  · rw [if_pos h5] at h; exact absurd rfl h
  have h5' : ¬ (a ++ t).length < 2 + (byt a 1 - 128) := by rw [List.length_append]; omega
  rw [if_neg h5, if_neg h5', List.drop_append_of_le_length (by omega), List.take_append_of_le_length (by rw [List.length_drop]; omega)]

/-- A head that is told right has its bytes. -/
theorem head_fits (a : List UInt8) (h : (head a).2.2 = 0) : 2 ≤ (head a).1 ∧ (head a).1 ≤ a.length := by
  unfold head at h ⊢
  by_cases h0 : a.length = 0
  · rw [if_pos h0] at h; exact absurd h (by decide)
  rw [if_neg h0] at h ⊢
  by_cases h1 : byt a 0 % 32 = 31
  · rw [if_pos h1] at h; exact absurd h (by decide)
  rw [if_neg h1] at h ⊢
  by_cases h2 : a.length < 2
  · rw [if_pos h2] at h; exact absurd h (by decide)
  rw [if_neg h2] at h ⊢
  by_cases h3 : byt a 1 < 128
  · rw [if_pos h3]; exact ⟨Nat.le_refl _, by simp only; omega⟩
  rw [if_neg h3] at h ⊢
  by_cases h4 : byt a 1 = 128 ∨ 132 < byt a 1
  · rw [if_pos h4] at h; exact absurd h (by decide)
  rw [if_neg h4] at h ⊢
  by_cases h5 : a.length < 2 + (byt a 1 - 128)
  · rw [if_pos h5] at h; exact absurd h (by decide)
  rw [if_neg h5]
  exact ⟨by simp only; omega, by simp only; omega⟩

/-- A head that is too short is of fewer than six bytes. -/
theorem head_short (a : List UInt8) (h : (head a).2.2 = 3) : a.length < 6 := by
  have hb := byt_lt a 1
  unfold head at h
  by_cases h2 : a.length < 2
  · omega
  by_cases h5 : a.length < 2 + (byt a 1 - 128) ∧ byt a 1 ≤ 132
  · omega
  rw [if_neg (by omega)] at h
  by_cases h1 : byt a 0 % 32 = 31
  · rw [if_pos h1] at h; exact absurd h (by decide)
  rw [if_neg h1, if_neg h2] at h
  by_cases h3 : byt a 1 < 128
  · rw [if_pos h3] at h; exact absurd h (by simp)
  rw [if_neg h3] at h
  by_cases h4 : byt a 1 = 128 ∨ 132 < byt a 1
  · rw [if_pos h4] at h; exact absurd h (by decide)
  rw [if_neg h4, if_neg (by omega)] at h
  exact absurd h (by simp)

/-- One byte more than too few: the head is no shorter than that. -/
theorem head_last (a : List UInt8) (c : UInt8) (h : (head a).2.2 = 3) (h' : (head (a ++ [c])).2.2 = 0) : a.length + 1 ≤ (head (a ++ [c])).1 := by
  rcases Nat.lt_or_ge a.length 2 with hl | hl
  · have := (head_fits _ h').1; omega
  have b1 : byt (a ++ [c]) 1 = byt a 1 := byt_app a [c] 1 (by omega)
  have b0 : byt (a ++ [c]) 0 = byt a 0 := byt_app a [c] 0 (by omega)
  have hlen : (a ++ [c]).length = a.length + 1 := by simp
  unfold head at h h' ⊢
  rw [b0, b1, hlen] at h' ⊢
  rw [if_neg (by omega)] at h h' ⊢
  by_cases h1 : byt a 0 % 32 = 31
  · rw [if_pos h1] at h; exact absurd h (by decide)
  rw [if_neg h1] at h h' ⊢
  rw [if_neg (by omega)] at h h' ⊢
  by_cases h3 : byt a 1 < 128
  · rw [if_pos h3] at h; exact absurd h (by simp)
  rw [if_neg h3] at h h' ⊢
  by_cases h4 : byt a 1 = 128 ∨ 132 < byt a 1
  · rw [if_pos h4] at h; exact absurd h (by decide)
  rw [if_neg h4] at h h' ⊢
  by_cases h5 : a.length < 2 + (byt a 1 - 128)
  · by_cases h6 : a.length + 1 < 2 + (byt a 1 - 128)
    · rw [if_pos h6] at h'; exact absurd h' (by decide)
    · rw [if_neg h6]; simp only; omega
  · rw [if_neg h5] at h; exact absurd h (by simp)

theorem total_app (a t : List UInt8) (h : (total a).2 ≠ 3) : total (a ++ t) = total a := by
  have h' : (head a).2.2 ≠ 3 := by
    intro e
    apply h
    unfold total
    rw [if_pos (by omega)]
    exact e
  unfold total
  rw [head_app a t h']

theorem total_ok (a : List UInt8) (h : (total a).2 = 0) : (head a).2.2 = 0 ∧ (total a).1 = (head a).1 + (head a).2.1 ∧ (total a).1 ≤ 8192 := by
  unfold total at h ⊢
  split at h
  · exact absurd h (by assumption)
  · rename_i h0
    split at h
    · exact absurd h (by decide)
    · rename_i h1
      rw [if_neg h0, if_neg h1]
      exact ⟨by omega, rfl, by simp only; omega⟩

theorem total_pos (a : List UInt8) (h : (total a).2 = 0) : 2 ≤ (total a).1 := by
  obtain ⟨h1, h2, _⟩ := total_ok a h
  have := (head_fits a h1).1
  omega

theorem total_nil : total [] = (0, 3) := rfl

theorem total_last (a : List UInt8) (c : UInt8) (h : (total a).2 = 3) (h' : (total (a ++ [c])).2 = 0) : a.length + 1 ≤ (total (a ++ [c])).1 := by
  obtain ⟨h1, h2, _⟩ := total_ok _ h'
  have h3 : (head a).2.2 = 3 := by
    unfold total at h
    split at h
    · exact h
    · split at h
      · exact absurd h (by decide)
      · exact absurd h (by simp)
  have := head_last a c h3 h1
  omega

/-- A value begins here that may be, or is not known yet. -/
def good (l : List UInt8) : Bool := byt l 0 == 48 && ((total l).2 == 0 || (total l).2 == 3)
/-- A value stands here whole. -/
def whole (l : List UInt8) : Bool := (total l).2 == 0 && decide ((total l).1 ≤ l.length)

/-- A stream cut at once: what is told, what is kept, is it broken? -/
def cut : Nat → List UInt8 → List (List UInt8) × List UInt8 × Bool
  | 0, l => ([], l, false)
  | f + 1, l =>
    if l = [] then ([], [], false) else
    if good l = false then ([], [], true) else
    if whole l = false then ([], l, false) else
    (l.take (total l).1 :: (cut f (l.drop (total l).1)).1, (cut f (l.drop (total l).1)).2)

theorem cut_fuel : ∀ (f g : Nat) (l : List UInt8), l.length ≤ f → l.length ≤ g → cut f l = cut g l := by
  intro f
  induction f with
  | zero =>
    intro g l hf hg
    obtain rfl : l = [] := List.eq_nil_of_length_eq_zero (by omega)
    cases g <;> simp [cut]
  | succ f ih =>
    intro g l hf hg
    cases g with
    | zero =>
      obtain rfl : l = [] := List.eq_nil_of_length_eq_zero (by omega)
      simp [cut]
    | succ g =>
      unfold cut
      by_cases h0 : l = []
      · rw [if_pos h0, if_pos h0]
      rw [if_neg h0, if_neg h0]
      by_cases h1 : good l = false
      · rw [if_pos h1, if_pos h1]
      rw [if_neg h1, if_neg h1]
      by_cases h2 : whole l = false
      · rw [if_pos h2, if_pos h2]
      rw [if_neg h2, if_neg h2]
      have ht : (total l).2 = 0 := by unfold whole at h2; simp at h2; exact h2.1
      have hp := total_pos l ht
      have e := ih g (l.drop (total l).1) (by rw [List.length_drop]; omega) (by rw [List.length_drop]; omega)
      rw [e]

/-- Byte by byte. -/
def byByte : List UInt8 → List UInt8 → List (List UInt8) × List UInt8 × Bool
  | a, [] => ([], a, false)
  | a, c :: t =>
    if good (a ++ [c]) = false then ([], [], true) else
    if whole (a ++ [c]) = true then ((a ++ [c]) :: (byByte [] t).1, (byByte [] t).2) else byByte (a ++ [c]) t

/-- Bytes at hand that are no whole value yet. -/
def Pend (a : List UInt8) : Prop := a = [] ∨ (good a = true ∧ whole a = false)

theorem good_app (a t : List UInt8) (h : a ≠ []) (hg : good a = false) : good (a ++ t) = false := by
  have hl : 0 < a.length := List.length_pos_iff.2 h
  unfold good at hg ⊢
  rw [byt_app a t 0 hl]
  by_cases h0 : byt a 0 = 48
  · have h3 : (total a).2 ≠ 3 := by intro e; simp [h0, e] at hg
    rw [total_app a t h3]; exact hg
  · simp [h0]

theorem whole_len (a : List UInt8) (c : UInt8) (hp : Pend a) (hw : whole (a ++ [c]) = true) : (total (a ++ [c])).1 = (a ++ [c]).length := by
  unfold whole at hw
  simp only [Bool.and_eq_true, beq_iff_eq, decide_eq_true_eq] at hw
  obtain ⟨h1, h2⟩ := hw
  have hl : (a ++ [c]).length = a.length + 1 := by simp
  rcases hp with rfl | ⟨hg, hn⟩
  · have := total_last [] c rfl h1
    simp at this h2 hl ⊢
    omega
  · unfold good at hg
    simp only [Bool.and_eq_true, Bool.or_eq_true, beq_iff_eq] at hg
    rcases hg.2 with h3 | h3
    · have e := total_app a [c] (by omega)
      rw [e] at h2 ⊢
      unfold whole at hn
      simp [h3] at hn
      omega
    · have := total_last a c h3 h1
      omega

/-- HOWEVER A STREAM COMES, THE SAME IS TOLD. -/
theorem byByte_cut : ∀ (s a : List UInt8), Pend a → byByte a s = cut (a ++ s).length (a ++ s) := by
  intro s
  induction s with
  | nil =>
    intro a hp
    rw [List.append_nil]
    unfold byByte
    rcases hp with rfl | ⟨hg, hw⟩
    · rfl
    · cases a with
      | nil => rfl
      | cons x a =>
        show _ = cut (a.length + 1) (x :: a)
        unfold cut
        rw [if_neg (by simp), if_neg (by simp [hg]), if_pos hw]
  | cons c t ih =>
    intro a hp
    have e : a ++ c :: t = (a ++ [c]) ++ t := by simp
    have hne : a ++ [c] ≠ [] := by simp
    have hl : 0 < (a ++ [c]).length := by simp
    rw [e]
    obtain ⟨m, hm⟩ : ∃ m, ((a ++ [c]) ++ t).length = m + 1 := ⟨a.length + t.length, by simp; omega⟩
    rw [hm]
    have hnil : ¬ (a ++ [c]) ++ t = [] := by simp
    unfold byByte
    by_cases h1 : good (a ++ [c]) = false
    · unfold cut
      rw [if_pos h1, if_neg hnil, if_pos (good_app _ t hne h1)]
    rw [if_neg h1]
    by_cases h2 : whole (a ++ [c]) = true
    · have hwl := whole_len a c hp h2
      have ht : (total (a ++ [c])).2 = 0 := by unfold whole at h2; simp at h2; exact h2.1
      have et := total_app (a ++ [c]) t (by omega)
      have hg : ¬ good ((a ++ [c]) ++ t) = false := by
        unfold good at h1 ⊢
        rw [et, byt_app _ t 0 hl]
        exact h1
      have hw : ¬ whole ((a ++ [c]) ++ t) = false := by
        unfold whole
        rw [et, hwl, ht]
        simp
      unfold cut
      rw [if_pos h2, if_neg hnil, if_neg hg, if_neg hw, et, hwl, List.take_left, List.drop_left, ih [] (Or.inl rfl), List.nil_append]
      have ef := cut_fuel t.length m t (Nat.le_refl _) (by rw [List.length_append] at hm; omega)
      rw [ef]
    · rw [if_neg h2, ih (a ++ [c]) (Or.inr ⟨by simpa using h1, by simpa using h2⟩), hm]

/-- What is kept is pending again. -/
theorem byByte_pend : ∀ (s a : List UInt8), Pend a → Pend (byByte a s).2.1 := by
  intro s
  induction s with
  | nil => intro a hp; exact hp
  | cons c t ih =>
    intro a hp
    unfold byByte
    by_cases h1 : good (a ++ [c]) = false
    · rw [if_pos h1]; exact Or.inl rfl
    rw [if_neg h1]
    by_cases h2 : whole (a ++ [c]) = true
    · rw [if_pos h2]; exact ih [] (Or.inl rfl)
    · rw [if_neg h2]; exact ih _ (Or.inr ⟨by simpa using h1, by simpa using h2⟩)

/-- A value that is not whole yet is shorter than the longest message. -/
theorem pend_len (a : List UInt8) (hp : Pend a) : a.length < 8192 := by
  rcases hp with rfl | ⟨hg, hw⟩
  · simp
  · unfold good at hg
    simp only [Bool.and_eq_true, Bool.or_eq_true, beq_iff_eq] at hg
    rcases hg.2 with h3 | h3
    · have h := (total_ok a h3).2.2
      unfold whole at hw
      simp [h3] at hw
      omega
    · have h4 : (head a).2.2 = 3 := by
        unfold total at h3
        split at h3
        · exact h3
        · split at h3
          · exact absurd h3 (by decide)
          · exact absurd h3 (by simp)
      have := head_short a h4
      omega

theorem cut_nil (f : Nat) : cut f [] = ([], [], false) := by cases f <;> simp [cut]

theorem cut_bad (f : Nat) (l : List UInt8) (h0 : 0 < l.length) (hf : l.length ≤ f) (hg : good l = false) : cut f l = ([], [], true) := by
  obtain ⟨m, rfl⟩ : ∃ m, f = m + 1 := ⟨f - 1, by omega⟩
  unfold cut
  rw [if_neg (by intro e; subst e; simp at h0), if_pos hg]

theorem cut_wait (f : Nat) (l : List UInt8) (h0 : 0 < l.length) (hf : l.length ≤ f) (hg : good l = true) (hw : whole l = false) : cut f l = ([], l, false) := by
  obtain ⟨m, rfl⟩ : ∃ m, f = m + 1 := ⟨f - 1, by omega⟩
  unfold cut
  rw [if_neg (by intro e; subst e; simp at h0), if_neg (by simp [hg]), if_pos hw]

theorem cut_next (f : Nat) (l : List UInt8) (h0 : 0 < l.length) (hf : l.length ≤ f) (hg : good l = true) (hw : whole l = true) :
    cut f l = (l.take (total l).1 :: (cut f (l.drop (total l).1)).1, (cut f (l.drop (total l).1)).2) := by
  obtain ⟨m, rfl⟩ : ∃ m, f = m + 1 := ⟨f - 1, by omega⟩
  have ht : (total l).2 = 0 := by unfold whole at hw; simp at hw; exact hw.1
  have hp := total_pos l ht
  have e := cut_fuel m (m + 1) (l.drop (total l).1) (by rw [List.length_drop]; omega) (by rw [List.length_drop]; omega)
  rw [← e]
  conv => lhs; unfold cut
  rw [if_neg (by intro e; subst e; simp at h0), if_neg (by simp [hg]), if_neg (by simp [hw])]

end PB
end Go.Proofs.YtbiglfpikfjbpaaDoor
/- Plain Lean: the value of bytes, as a tree, or what is amiss. -/
namespace Go.Proofs.YtbiglfpikfjbpaaDoor
namespace PB

/-- how many bytes the first value says that it has. -/
def span (l : List UInt8) : Nat := (head l).1 + (head l).2.1

/-- The values that stand one behind the other; f reads one, none: it is too deep. -/
def kidsOf (f : Option (List UInt8 → Except Nat Tl)) : Nat → List UInt8 → Except Nat (List Tl)
  | 0, _ => .ok []
  | fu + 1, l =>
    if l = [] then .ok [] else
    match f with
    | none => .error 13
    | some g =>
      if (head l).2.2 ≠ 0 ∨ l.length < span l then .error 4 else
      match g (l.take (span l)) with
      | .error e => .error e
      | .ok t => match kidsOf (some g) fu (l.drop (span l)) with
        | .error e => .error e
        | .ok ts => .ok (t :: ts)

/-- The value of just these bytes. -/
def valOf (f : Option (List UInt8 → Except Nat Tl)) (l : List UInt8) : Except Nat Tl :=
  if (head l).2.2 ≠ 0 ∨ span l ≠ l.length then .error 4 else
  if byt l 0 / 32 % 2 = 0 then .ok (.mk (byt l 0 / 64 : Nat) false (byt l 0 % 32 : Nat) ⟨(l.drop (head l).1).toArray⟩ []) else
  match kidsOf f l.length (l.drop (head l).1) with
  | .error e => .error e
  | .ok ts => .ok (.mk (byt l 0 / 64 : Nat) true (byt l 0 % 32 : Nat) ByteArray.empty ts)

/-- .. with so many levels to go. -/
def val : Nat → List UInt8 → Except Nat Tl
  | 0 => valOf none
  | k + 1 => valOf (some (val k))

/-- the reader of the values within. -/
def sub : Nat → Option (List UInt8 → Except Nat Tl)
  | 0 => none
  | k + 1 => some (val k)

theorem val_eq (k : Nat) : val k = valOf (sub k) := by cases k <;> rfl

/-- A list in front of what is to come. -/
def pre (a : List Tl) : Except Nat (List Tl) → Except Nat (List Tl)
  | .error e => .error e
  | .ok ts => .ok (a ++ ts)

theorem pre_nil (r : Except Nat (List Tl)) : pre [] r = r := by cases r <;> rfl
theorem pre_pre (a b : List Tl) (r : Except Nat (List Tl)) : pre a (pre b r) = pre (a ++ b) r := by cases r <;> simp [pre]

theorem span_pos (l : List UInt8) (h : (head l).2.2 = 0) : 2 ≤ span l := by
  have := (head_fits l h).1
  unfold span
  omega

theorem kidsOf_fuel (g : Option (List UInt8 → Except Nat Tl)) : ∀ (f f' : Nat) (l : List UInt8), l.length ≤ f → l.length ≤ f' → kidsOf g f l = kidsOf g f' l := by
  intro f
  induction f with
  | zero =>
    intro f' l hf hf'
    obtain rfl : l = [] := List.eq_nil_of_length_eq_zero (by omega)
    cases f' <;> simp [kidsOf]
  | succ f ih =>
    intro f' l hf hf'
    cases f' with
    | zero =>
      obtain rfl : l = [] := List.eq_nil_of_length_eq_zero (by omega)
      simp [kidsOf]
    | succ f' =>
      unfold kidsOf
      by_cases h0 : l = []
      · rw [if_pos h0, if_pos h0]
      rw [if_neg h0, if_neg h0]
      cases g with
      | none => rfl
      | some g =>
        dsimp only
        by_cases h1 : (head l).2.2 ≠ 0 ∨ l.length < span l
        · rw [if_pos h1, if_pos h1]
        rw [if_neg h1, if_neg h1]
        have hp := span_pos l (by omega)
        have e := ih f' (l.drop (span l)) (by rw [List.length_drop]; omega) (by rw [List.length_drop]; omega)
        rw [e]

theorem kidsOf_nil (g : Option (List UInt8 → Except Nat Tl)) (f : Nat) : kidsOf g f [] = .ok [] := by cases f <;> simp [kidsOf]

theorem kidsOf_deep (f : Nat) (l : List UInt8) (h0 : 0 < l.length) (hf : l.length ≤ f) : kidsOf none f l = .error 13 := by
  obtain ⟨m, rfl⟩ : ∃ m, f = m + 1 := ⟨f - 1, by omega⟩
  unfold kidsOf
  rw [if_neg (by intro e; subst e; simp at h0)]

theorem kidsOf_form (g : List UInt8 → Except Nat Tl) (f : Nat) (l : List UInt8) (h0 : 0 < l.length) (hf : l.length ≤ f) (hb : (head l).2.2 ≠ 0 ∨ l.length < span l) : kidsOf (some g) f l = .error 4 := by
  obtain ⟨m, rfl⟩ : ∃ m, f = m + 1 := ⟨f - 1, by omega⟩
  unfold kidsOf
  rw [if_neg (by intro e; subst e; simp at h0)]
  dsimp only
  rw [if_pos hb]

theorem kidsOf_err (g : List UInt8 → Except Nat Tl) (f : Nat) (l : List UInt8) (e : Nat) (h0 : 0 < l.length) (hf : l.length ≤ f) (hb : ¬ ((head l).2.2 ≠ 0 ∨ l.length < span l)) (hg : g (l.take (span l)) = .error e) : kidsOf (some g) f l = .error e := by
  obtain ⟨m, rfl⟩ : ∃ m, f = m + 1 := ⟨f - 1, by omega⟩
  unfold kidsOf
  rw [if_neg (by intro e; subst e; simp at h0)]
  dsimp only
  rw [if_neg hb, hg]

theorem kidsOf_next (g : List UInt8 → Except Nat Tl) (f : Nat) (l : List UInt8) (t : Tl) (h0 : 0 < l.length) (hf : l.length ≤ f) (hb : ¬ ((head l).2.2 ≠ 0 ∨ l.length < span l)) (hg : g (l.take (span l)) = .ok t) :
    kidsOf (some g) f l = pre [t] (kidsOf (some g) f (l.drop (span l))) := by
  obtain ⟨m, rfl⟩ : ∃ m, f = m + 1 := ⟨f - 1, by omega⟩
  have hp := span_pos l (by omega)
  have e := kidsOf_fuel (some g) (m + 1) m (l.drop (span l)) (by rw [List.length_drop]; omega) (by rw [List.length_drop]; omega)
  rw [e]
  conv => lhs; unfold kidsOf
  rw [if_neg (by intro e; subst e; simp at h0)]
  dsimp only
  rw [if_neg hb, hg]
  dsimp only
  cases kidsOf (some g) m (l.drop (span l)) <;> rfl

end PB
end Go.Proofs.YtbiglfpikfjbpaaDoor
/- Contract of ber.whole: it tells, or it throws. -/
namespace Go.Proofs.YtbiglfpikfjbpaaDoor
open Go.RowKit
open Go.PlainAid

/-- A call that throws a trouble. -/
def Throws (er : Nat) (e : Ending) : Prop := e = .panicked [{ v := .iface 97 (.int .i64 er), recovered := false }]

set_option maxRecDepth 100000 in
theorem whole_no (s : ByteArray) (w : World) (hs : s.size ≤ 1000000) (h : (PB.head s.data.toList).2.2 ≠ 0 ∨ s.size < PB.span s.data.toList) :
    Calls Tryd.prog 73 #[.string s] w fun e w' => Throws 4 e ∧ ∃ n, w' = w.drewN n := by
  have hl := PB.head_le s.data.toList
  have hh := head_any s w (by unfold maxLen; omega)
  unfold PB.span at h
  generalize PB.head s.data.toList = p at hl hh h
  obtain ⟨a, n, er⟩ := p
  dsimp only at hl hh h
  obtain ⟨hl1, hl2⟩ := hl
  have HH := Lib.hid hh
  clear hh
  by_cases he : er = 0
  · subst he
    have h2 : decide ((s.size : Int) - a < n) = true := by simp; omega
    go_enter Tryd.func73, Tryd.ntmps73
    go_wp2_with (go_at_call 72; refine HH.out.mono ?_; rintro e w' ⟨rfl, nq, rfl⟩)
    exact ⟨rfl, rfl, _, rfl⟩
  · have h1 : ((er : Int) != 0) = true := by simp; omega
    clear he h
    go_enter Tryd.func73, Tryd.ntmps73
    go_wp2_with (go_at_call 72; refine HH.out.mono ?_; rintro e w' ⟨rfl, nq, rfl⟩)
    exact ⟨rfl, rfl, _, rfl⟩

set_option maxRecDepth 100000 in
theorem whole_yes (s : ByteArray) (w : World) (hs : s.size ≤ 1000000) (h : ¬ ((PB.head s.data.toList).2.2 ≠ 0 ∨ s.size < PB.span s.data.toList)) :
    Calls Tryd.prog 73 #[.string s] w fun e w' => e = .returned (.int .i64 (PB.span s.data.toList)) ∧ ∃ n, w' = w.drewN n := by
  have hl := PB.head_le s.data.toList
  have hh := head_any s w (by unfold maxLen; omega)
  unfold PB.span at h ⊢
  generalize PB.head s.data.toList = p at hl hh h
  obtain ⟨a, n, er⟩ := p
  dsimp only at hl hh h ⊢
  obtain ⟨hl1, hl2⟩ := hl
  have HH := Lib.hid hh
  clear hh
  obtain rfl : er = 0 := by omega
  have h2 : decide ((s.size : Int) - a < n) = false := by simp; omega
  have h3 : a + n ≤ s.size := by omega
  clear h
  go_enter Tryd.func73, Tryd.ntmps73
  go_wp2_with (go_at_call 72; refine HH.out.mono ?_; rintro e w' ⟨rfl, nq, rfl⟩)
  go_ret
  exact ⟨by go_num, _, rfl⟩

end Go.Proofs.YtbiglfpikfjbpaaDoor
/- Plain Lean: whole numbers as bytes with a sign, as few as can be. -/
namespace Go.Proofs.YtbiglfpikfjbpaaDoor
open Go.RowKit
open Go.PlainAid

/-- 'x | c' where the low byte of x is nought. -/
theorem i64_or_byte (n c : Int) (h0 : -36028797018963968 ≤ n) (h1 : n < 36028797018963968) (h2 : 0 ≤ c) (h3 : c ≤ 255) : bits BinOp.or IntKind.i64 (n * 256) c = n * 256 + c := by
  obtain ⟨b, rfl⟩ := Int.eq_ofNat_of_zero_le h2
  have e1 : (BitVec.ofInt 64 (n * 256)).toNat = ((n % 72057594037927936).toNat) * 256 := by
    rw [BitVec.toNat_ofInt]
    omega
  have e2 : (BitVec.ofInt 64 (b : Int)).toNat = b := by
    rw [BitVec.ofInt_natCast, BitVec.toNat_ofNat]; exact Nat.mod_eq_of_lt (by omega)
  show IntKind.i64.wrap ((BitVec.ofInt 64 (n * 256) ||| BitVec.ofInt 64 (b : Int)).toNat : Int) = _
  rw [BitVec.toNat_or, e1, e2, nat_or_256 _ b (by omega), IntKind.wrap_i64]
  omega

namespace PB

/-- the number with a sign of bytes. -/
def sgn (l : List UInt8) : Int := l.tail.foldl (fun n x => n * 256 + (x.toNat : Int)) (if byt l 0 < 128 then (byt l 0 : Int) else (byt l 0 : Int) - 256)

theorem sgn_snoc (l : List UInt8) (c : UInt8) (h : l ≠ []) : sgn (l ++ [c]) = sgn l * 256 + (c.toNat : Int) := by
  cases l with
  | nil => exact absurd rfl h
  | cons a r => simp [sgn, byt]

/-- a bound of so many bytes. -/
def half (k : Nat) : Int := 128 * 256 ^ k

theorem half_succ (k : Nat) : half (k + 1) = half k * 256 := by unfold half; rw [Int.pow_succ]; omega

theorem sgn_bound (n : Nat) : ∀ (l : List UInt8), l.length = n + 1 → - half n ≤ sgn l ∧ sgn l < half n := by
  induction n with
  | zero =>
    intro l hl
    match l, hl with
    | [a], _ =>
      have := a.toNat_lt
      unfold sgn half byt
      simp
      split <;> omega
  | succ n ih =>
    intro l hl
    have hne : l ≠ [] := by intro e; simp [e] at hl
    have e := List.dropLast_concat_getLast hne
    have hd : l.dropLast ≠ [] := by intro e2; have := congrArg List.length e2; simp [hl] at this
    have h1 := ih l.dropLast (by simp [hl])
    rw [← e, sgn_snoc _ _ hd, half_succ]
    have := (l.getLast hne).toNat_lt
    omega

/-- are these a number's bytes? -/
def isNum (cons : Bool) (l : List UInt8) : Bool :=
  !cons && decide (1 ≤ l.length) && decide (l.length ≤ 8) && !(decide (1 < l.length) && (byt l 0 == 0 && decide (byt l 1 < 128) || byt l 0 == 255 && decide (128 ≤ byt l 1)))

end PB
end Go.Proofs.YtbiglfpikfjbpaaDoor
/- Contract of the reference's Weigh. -/
namespace Go.Proofs.YtbiglfpikfjbpaaDoor
open Go.RowKit

mutual
/-- bytes and values, as far as 30000 goes. -/
def Tl.weigh : Tl → Nat → Nat → Nat
  | .mk _ _ _ b ks, m, d => if 60 < d then 30001 else Tl.weighs ks (m + 2 + min b.size 30001) d
def Tl.weighs : List Tl → Nat → Nat → Nat
  | [], m, _ => m
  | k :: ks, m, d => if m ≤ 30000 then Tl.weighs ks (Tl.weigh k m (d + 1)) d else m
end

mutual
theorem Tl.weigh_le : ∀ (t : Tl) (m d : Nat), m ≤ 30000 → t.weigh m d ≤ 60003
  | .mk c k g b ks, m, d, h => by
    unfold Tl.weigh
    split
    · omega
    · exact Tl.weighs_le ks _ d (by omega)
theorem Tl.weighs_le : ∀ (ks : List Tl) (m d : Nat), m ≤ 60003 → Tl.weighs ks m d ≤ 60003
  | [], m, d, h => by unfold Tl.weighs; exact h
  | k :: ks, m, d, h => by
    unfold Tl.weighs
    split
    · rename_i h1
      exact Tl.weighs_le ks _ d (Tl.weigh_le k m (d + 1) h1)
    · exact h
end

theorem Tl.weighs_drop (ks : List Tl) (i m d : Nat) (h : i < ks.length) (hm : m ≤ 30000) : Tl.weighs (ks.drop i) m d = Tl.weighs (ks.drop (i + 1)) (ks[i].weigh m (d + 1)) d := by
  rw [List.drop_eq_getElem_cons h]
  rw [Tl.weighs, if_pos hm]
theorem Tl.weighs_full (ks : List Tl) (i m d : Nat) (hm : 30000 < m) : Tl.weighs (ks.drop i) m d = m := by
  cases ks.drop i with
  | nil => rw [Tl.weighs]
  | cons k r => rw [Tl.weighs, if_neg (by omega)]
theorem Tl.weighs_end (ks : List Tl) (i m d : Nat) (h : ks.length ≤ i) : Tl.weighs (ks.drop i) m d = m := by
  rw [List.drop_eq_nil_of_le h, Tl.weighs]

/-- A call that tells an int and makes memory alone. -/
def TellsI (q : Int) (w : World) (e : Ending) (w' : World) : Prop := e = .returned (.int .i64 q) ∧ Below w.heap.size w w'

theorem tellsI_of {q q' : Int} {w w' : World} (h : q = q') (hb : Below w.heap.size w w') : TellsI q w (.returned (.int .i64 q')) w' := by
  subst h
  exact ⟨rfl, hb⟩

end Go.Proofs.YtbiglfpikfjbpaaDoor
/- Contracts of ber.Number and the reference's Number. -/
namespace Go.Proofs.YtbiglfpikfjbpaaDoor
open Go.RowKit
open Go.PlainAid

/-- A call that tells a number and an error, and makes memory alone. -/
def TellsN (q : Int) (er : Int) (w : World) (e : Ending) (w' : World) : Prop := e = .returned (.tuple #[.int .i64 q, .int .i64 er]) ∧ Below w.heap.size w w'

set_option maxRecDepth 100000 in
theorem number_no (c g : Int) (k : Bool) (b : ByteArray) (A : Option Addr) (n cap : Nat) (w : World) (hb : b.size ≤ maxLen) (h : PB.isNum k b.data.toList = false) :
    Calls Tryd.prog 49 #[.agg #[.int .i64 c, .bool k, .int .i64 g, .string b, .slice A n cap]] w (TellsN 0 4 w) := by
  unfold maxLen at hb
  unfold PB.isNum at h
  rw [len_size] at h
  have t0 := byt_bt b 0
  have t1 := byt_bt b 1
  cases k with
  | true =>
    go_enter Tryd.func49, Tryd.ntmps49
    go_wp2_with fail
    go_ret2
    exact ⟨rfl, (Below.refl _ _).alloc (Nat.le_refl _) _⟩
  | false =>
    by_cases h1 : b.size < 1
    · have q1 : decide ((b.size : Int) < 1) = true := by simp; omega
      clear h t0 t1
      go_enter Tryd.func49, Tryd.ntmps49
      go_wp2_with fail
      go_ret2
      exact ⟨rfl, (Below.refl _ _).alloc (Nat.le_refl _) _⟩
    have q1 : decide ((b.size : Int) < 1) = false := by simp; omega
    by_cases h8 : 8 < b.size
    · have q2 : decide ((8 : Int) < b.size) = true := by simp; omega
      clear h t0 t1
      go_enter Tryd.func49, Tryd.ntmps49
      go_wp2_with fail
      go_ret2
      exact ⟨rfl, (Below.refl _ _).alloc (Nat.le_refl _) _⟩
    have q2 : decide ((8 : Int) < b.size) = false := by simp; omega
    have hm : 1 < b.size ∧ (bt b 0 = 0 ∧ bt b 1 < 128 ∨ bt b 0 = 255 ∧ 128 ≤ bt b 1) := by
      simp [show 1 ≤ b.size by omega, show b.size ≤ 8 by omega] at h
      omega
    clear h t0 t1
    obtain ⟨hm1, hm2⟩ := hm
    have q3 : decide ((1 : Int) < b.size) = true := by simp; omega
    have hg0 := get_bt b 0 (by omega)
    have hg1 := get_bt b 1 (by omega)
    have h0 : 0 < b.size := by omega
    rcases hm2 with ⟨h2, h3⟩ | ⟨h2, h3⟩
    · have q4 : (bt b 0 == 0) = true := by simp [h2]
      clear h2
      go_enter Tryd.func49, Tryd.ntmps49
      go_wp2_with fail
      go_ret2
      exact ⟨rfl, (Below.refl _ _).alloc (Nat.le_refl _) _⟩
    · have q4 : (bt b 0 == 0) = false := by simp [h2]
      have q5 : (bt b 0 == 255) = true := by simp [h2]
      clear h2
      go_enter Tryd.func49, Tryd.ntmps49
      go_wp2_with fail
      go_ret2
      exact ⟨rfl, (Below.refl _ _).alloc (Nat.le_refl _) _⟩

theorem half_small (k : Nat) (h : k ≤ 6) : PB.half k ≤ 36028797018963968 := by
  have : k = 0 ∨ k = 1 ∨ k = 2 ∨ k = 3 ∨ k = 4 ∨ k = 5 ∨ k = 6 := by omega
  rcases this with rfl | rfl | rfl | rfl | rfl | rfl | rfl <;> (unfold PB.half; decide)

theorem sgn_small (b : ByteArray) (j : Nat) (h1 : 1 ≤ j) (h : j < b.size) (h8 : b.size ≤ 8) : -36028797018963968 ≤ PB.sgn (b.data.toList.take j) ∧ PB.sgn (b.data.toList.take j) < 36028797018963968 := by
  have hb := PB.sgn_bound (j - 1) (b.data.toList.take j) (by rw [List.length_take, len_size]; omega)
  have hh := half_small (j - 1) (by omega)
  omega

theorem take_at (b : ByteArray) (j : Nat) (h : j < b.size) : b.data.toList.take (j + 1) = b.data.toList.take j ++ [b.data.toList.getD j 0] := by
  rw [List.take_succ_eq_append_getElem (by rw [len_size]; exact h), List.getD_eq_getElem?_getD, List.getElem?_eq_getElem (by rw [len_size]; exact h)]
  rfl

theorem sgn_next (b : ByteArray) (j : Nat) (h1 : 1 ≤ j) (h : j < b.size) : PB.sgn (b.data.toList.take (j + 1)) = PB.sgn (b.data.toList.take j) * 256 + bt b j := by
  have hne : b.data.toList.take j ≠ [] := by
    intro e
    have := congrArg List.length e
    rw [List.length_take, len_size, List.length_nil] at this
    omega
  rw [take_at b j h, PB.sgn_snoc _ _ hne, byt_bt]
  rfl

theorem start_i8 (b : ByteArray) (h : 0 < b.size) : wrap64 (IntKind.i8.wrap (bt b 0)) = PB.sgn (b.data.toList.take 1) := by
  have h1 := bt_nonneg b 0
  have h2 := bt_le b 0
  have e : PB.sgn (b.data.toList.take 1) = if bt b 0 < 128 then bt b 0 else bt b 0 - 256 := by
    have hl := take_at b 0 h
    rw [Nat.zero_add, List.take_zero, List.nil_append] at hl
    rw [hl, byt_bt]
    unfold PB.sgn PB.byt
    simp
    split <;> split <;> first | rfl | omega
  have e2 : IntKind.i8.wrap (bt b 0) = if bt b 0 < 128 then bt b 0 else bt b 0 - 256 := by
    simp [IntKind.wrap, IntKind.bits, IntKind.signed]
    split <;> split <;> omega
  rw [e, e2, IntWalk.wrap64_in _ ⟨by split <;> omega, by split <;> omega⟩]

set_option maxRecDepth 100000 in
theorem number_yes (c g : Int) (b : ByteArray) (A : Option Addr) (n cap : Nat) (w : World) (h : PB.isNum false b.data.toList = true) :
    Calls Tryd.prog 49 #[.agg #[.int .i64 c, .bool false, .int .i64 g, .string b, .slice A n cap]] w (TellsN (PB.sgn b.data.toList) 0 w) := by
  unfold PB.isNum at h
  rw [len_size] at h
  have t0 := byt_bt b 0
  have t1 := byt_bt b 1
  simp only [Bool.not_false, Bool.true_and, Bool.and_eq_true, decide_eq_true_eq, Bool.not_eq_true'] at h
  obtain ⟨⟨h1, h8⟩, hm⟩ := h
  have hm' : b.size = 1 ∨ (1 < b.size ∧ ¬ (bt b 0 = 0 ∧ bt b 1 < 128) ∧ ¬ (bt b 0 = 255 ∧ 128 ≤ bt b 1)) := by
    by_cases hx : b.size = 1
    · exact Or.inl hx
    · right
      simp [show 1 < b.size by omega] at hm
      omega
  clear hm t0 t1
  have q1 : decide ((b.size : Int) < 1) = false := by simp; omega
  have q2 : decide ((8 : Int) < b.size) = false := by simp; omega
  have hg0 := get_bt b 0 (by omega)
  have h0 : 0 < b.size := by omega
  have b1 := bt_nonneg b 0
  have b2 := bt_le b 0
  have HI := Lib.hid (start_i8 b h0)
  have hcase : (∃ _ : decide ((1 : Int) < b.size) = false, b.size = 1) ∨ (1 < b.size ∧ (bt b 0 == 0) = true ∧ decide (bt b 1 < 128) = false ∧ (bt b 0 == 255) = false) ∨ (1 < b.size ∧ (bt b 0 == 0) = false ∧ (bt b 0 == 255) = true ∧ decide (128 ≤ bt b 1) = false) ∨ (1 < b.size ∧ (bt b 0 == 0) = false ∧ (bt b 0 == 255) = false) := by
    rcases hm' with hs | ⟨hs, hm1, hm2⟩
    · exact Or.inl ⟨by simp; omega, hs⟩
    · right
      by_cases hx : bt b 0 = 0
      · exact Or.inl ⟨hs, by simp [hx], by simp; omega, by simp; omega⟩
      · by_cases hy : bt b 0 = 255
        · exact Or.inr (Or.inl ⟨hs, by simp; omega, by simp [hy], by simp; omega⟩)
        · exact Or.inr (Or.inr ⟨hs, by simp; omega, by simp; omega⟩)
  clear hm'
  have hex : ∃ x : Int, x = bt b 1 := ⟨_, rfl⟩
  rcases hcase with ⟨q3, hs⟩ | ⟨hs, q4, q5, q6⟩ | ⟨hs, q4, q5, q6⟩ | ⟨hs, q4, q5⟩
  case' inl => have hs1 := Nat.le_of_eq hs; clear hs
  case' inr.inl => have hg1 := get_bt b 1 hs; have q3 : decide ((1 : Int) < b.size) = true := by simp; omega
  case' inr.inr.inl => have hg1 := get_bt b 1 hs; have q3 : decide ((1 : Int) < b.size) = true := by simp; omega
  case' inr.inr.inr => have hg1 := get_bt b 1 hs; have q3 : decide ((1 : Int) < b.size) = true := by simp; omega
  all_goals
    clear hex
    go_enter Tryd.func49, Tryd.ntmps49
    go_wp2_with fail
    go_loop [5, 6] (fun x i => ∃ j : Nat, 1 ≤ j ∧ j ≤ b.size ∧ i = .int .i64 j ∧ x = .int .i64 (PB.sgn (b.data.toList.take j))) (fun _ i => b.size - (intOf i).toNat)
    case atStart => exact ⟨1, by omega, by omega, rfl, by rw [HI.out]⟩
    case round =>
      obtain ⟨j, hj1, hj, rfl, rfl⟩ := hrel
      by_cases hlt : j < b.size
      · have hb := get_bt b j hlt
        have hb1 := bt_nonneg b j
        have hb2 := bt_le b j
        obtain ⟨s1, s2⟩ := sgn_small b j hj1 hlt h8
        have HX := Lib.hid (sgn_next b j hj1 hlt)
        generalize PB.sgn (b.data.toList.take j) = s at s1 s2 HX
        have HY := Lib.hid (i64_or_byte s (bt b j) s1 s2 hb1 hb2)
        go_wp2_with fail
        go_round
        case rel => exact ⟨j + 1, by omega, by omega, by go_num, by rw [HY.out, HX.out]⟩
        case measure => simp [intOf]; omega
      · have hz : b.data.toList.take j = b.data.toList := List.take_of_length_le (by rw [len_size]; omega)
        rw [hz]
        clear hz
        go_wp2_with fail
        go_ret2
        exact ⟨rfl, (Below.refl _ _).alloc (Nat.le_refl _) _⟩

end Go.Proofs.YtbiglfpikfjbpaaDoor
/- Contract of the reference's Number. -/
namespace Go.Proofs.YtbiglfpikfjbpaaDoor
open Go.RowKit
open Go.PlainAid

/-- a number as 64 bits have it. -/
def m64 (x : Int) : Int := x % 18446744073709551616

/-- the number of the first j bytes; its sign alone at j = 0. -/
def sgnTo (b : ByteArray) (j : Nat) : Int := if j = 0 then (if bt b 0 < 128 then 0 else -1) else PB.sgn (b.data.toList.take j)

theorem sgnTo_pos (b : ByteArray) (h : bt b 0 < 128) : m64 (sgnTo b 0) = 0 := by
  unfold sgnTo
  rw [if_pos rfl, if_pos h]
  rfl
theorem sgnTo_neg (b : ByteArray) (h : ¬ bt b 0 < 128) : m64 (sgnTo b 0) = 18446744073709551615 := by
  unfold sgnTo
  rw [if_pos rfl, if_neg h]
  rfl
theorem sgnTo_next (b : ByteArray) (j : Nat) (h : j < b.size) : sgnTo b (j + 1) = sgnTo b j * 256 + bt b j := by
  unfold sgnTo
  rw [if_neg (by omega)]
  by_cases h0 : j = 0
  · subst h0
    rw [if_pos rfl, ← start_i8 b h]
    have h1 := bt_nonneg b 0
    have h2 := bt_le b 0
    have e2 : IntKind.i8.wrap (bt b 0) = if bt b 0 < 128 then bt b 0 else bt b 0 - 256 := by
      simp [IntKind.wrap, IntKind.bits, IntKind.signed]
      split <;> split <;> omega
    rw [e2, IntWalk.wrap64_in _ ⟨by split <;> omega, by split <;> omega⟩]
    split <;> omega
  · rw [if_neg h0, sgn_next b j (by omega) h]

theorem m64_step (s c : Int) : IntKind.u64.wrap (IntKind.u64.wrap (m64 s * 256) + c) = m64 (s * 256 + c) := by
  unfold m64
  rw [IntKind.wrap_u64, IntKind.wrap_u64]
  omega

theorem m64_back (b : ByteArray) (h0 : 0 < b.size) (h8 : b.size ≤ 8) : wrap64 (m64 (sgnTo b b.size)) = PB.sgn b.data.toList := by
  unfold sgnTo
  rw [if_neg (by omega), List.take_of_length_le (by rw [len_size]; omega)]
  have hb := PB.sgn_bound (b.size - 1) b.data.toList (by rw [len_size]; omega)
  have hh : PB.half (b.size - 1) ≤ 9223372036854775808 := by
    have : b.size - 1 = 0 ∨ b.size - 1 = 1 ∨ b.size - 1 = 2 ∨ b.size - 1 = 3 ∨ b.size - 1 = 4 ∨ b.size - 1 = 5 ∨ b.size - 1 = 6 ∨ b.size - 1 = 7 := by omega
    rcases this with h | h | h | h | h | h | h | h <;> (rw [h]; unfold PB.half; decide)
  generalize PB.sgn b.data.toList = s at *
  generalize PB.half (b.size - 1) = y at *
  unfold wrap64 m64
  omega

theorem tellsN_of {q q' er : Int} {w w' : World} (h : q' = q) (hb : Below w.heap.size w w') : TellsN q er w (.returned (.tuple #[.int .i64 q', .int .i64 er])) w' := by
  subst h
  exact ⟨rfl, hb⟩

end Go.Proofs.YtbiglfpikfjbpaaDoor
/- Contracts: the reference's Head tells PB.head; ber.Length and the reference's Total tell PB.total; frame.length. For every string of the model. -/
namespace Go.Proofs.YtbiglfpikfjbpaaDoor
open Go.RowKit
open Go.PlainAid

set_option maxRecDepth 100000 in
theorem rhead_nil (s : ByteArray) (w : World) (h0 : s.size = 0) :
    Calls Tryd.prog 45 #[.string s] w (Tells3 0 0 3 w) := by
  obtain rfl : s = ByteArray.empty := by simpa [ByteArray.size_eq_zero_iff] using h0
  go_enter Tryd.func45, Tryd.ntmps45
  go_wp2
  go_ret3
  exact ⟨rfl, 0, rfl⟩

set_option maxRecDepth 100000 in
theorem rhead_form (s : ByteArray) (w : World) (h0 : 0 < s.size) (h1 : bt s 0 % 32 = 31) :
    Calls Tryd.prog 45 #[.string s] w (Tells3 0 0 4 w) := by
  have hg := get_bt s 0 h0
  have b1 := bt_nonneg s 0
  have b2 := bt_le s 0
  have h1' : (bt s 0 % 32 == 31) = true := by simp [h1]
  have h2 : decide ((1 : Int) ≤ s.size) = true := by simp; omega
  clear h1
  go_enter Tryd.func45, Tryd.ntmps45
  go_wp2_with fail
  go_ret3
  exact ⟨rfl, 0, rfl⟩

set_option maxRecDepth 100000 in
theorem rhead_one (s : ByteArray) (w : World) (h0 : 0 < s.size) (h2 : s.size < 2) (h1 : bt s 0 % 32 ≠ 31) :
    Calls Tryd.prog 45 #[.string s] w (Tells3 0 0 3 w) := by
  have hg := get_bt s 0 h0
  have b1 := bt_nonneg s 0
  have b2 := bt_le s 0
  have h1' : (bt s 0 % 32 == 31) = false := by simp [h1]
  have h3 : decide ((1 : Int) ≤ s.size) = true := by simp; omega
  clear h1
  go_enter Tryd.func45, Tryd.ntmps45
  go_wp2_with fail
  go_ret3
  exact ⟨rfl, 0, rfl⟩

set_option maxRecDepth 100000 in
theorem rhead_small (s : ByteArray) (w : World) (hs : s.size ≤ maxLen) (h0 : 2 ≤ s.size) (h1 : bt s 0 % 32 ≠ 31) (h2 : bt s 1 < 128) :
    Calls Tryd.prog 45 #[.string s] w (Tells3 2 (bt s 1) 0 w) := by
  unfold maxLen at hs
  have hg := get_bt s 0 (by omega)
  have hg1 := get_bt s 1 (by omega)
  have h1' : (bt s 0 % 32 == 31) = false := by simp [h1]
  have h3 : 0 < s.size := by omega
  have h4 : 1 < s.size := by omega
  have b0 := bt_nonneg s 0
  have b1 := bt_nonneg s 1
  have b2 := bt_le s 1
  have h5 : decide ((1 : Int) ≤ s.size) = true := by simp; omega
  clear h1
  go_enter Tryd.func45, Tryd.ntmps45
  go_wp2_with fail
  go_ret3
  exact ⟨rfl, 0, rfl⟩

set_option maxRecDepth 100000 in
theorem rhead_none (s : ByteArray) (w : World) (hs : s.size ≤ maxLen) (h0 : 2 ≤ s.size) (h1 : bt s 0 % 32 ≠ 31) (h2 : 128 ≤ bt s 1) (h5 : bt s 1 = 128 ∨ 132 < bt s 1) :
    Calls Tryd.prog 45 #[.string s] w (Tells3 0 0 4 w) := by
  unfold maxLen at hs
  have hg := get_bt s 0 (by omega)
  have hg1 := get_bt s 1 (by omega)
  have h1' : (bt s 0 % 32 == 31) = false := by simp [h1]
  have h3 : 0 < s.size := by omega
  have h4 : 1 < s.size := by omega
  have b0 := bt_nonneg s 0
  have b2 := bt_le s 1
  have h7 : decide ((1 : Int) ≤ s.size) = true := by simp; omega
  clear h1
  rcases h5 with h5 | h5
  · have h6 : decide (bt s 1 - 128 < 1) = true := by simp; omega
    clear h5
    go_enter Tryd.func45, Tryd.ntmps45
    go_wp2_with fail
    go_ret3
    exact ⟨rfl, 0, rfl⟩
  · have h6 : decide (bt s 1 - 128 < 1) = false := by simp; omega
    have h8 : decide (4 < bt s 1 - 128) = true := by simp; omega
    go_enter Tryd.func45, Tryd.ntmps45
    go_wp2_with fail
    go_ret3
    exact ⟨rfl, 0, rfl⟩

set_option maxRecDepth 100000 in
theorem rhead_cut (s : ByteArray) (w : World) (hs : s.size ≤ maxLen) (h0 : 2 ≤ s.size) (h1 : bt s 0 % 32 ≠ 31) (h2 : 128 < bt s 1) (h5 : bt s 1 ≤ 132) (h9 : s.size < 2 + (bt s 1 - 128)) :
    Calls Tryd.prog 45 #[.string s] w (Tells3 0 0 3 w) := by
  unfold maxLen at hs
  have hg := get_bt s 0 (by omega)
  have hg1 := get_bt s 1 (by omega)
  have h1' : (bt s 0 % 32 == 31) = false := by simp [h1]
  have h3 : 0 < s.size := by omega
  have h4 : 1 < s.size := by omega
  have b0 := bt_nonneg s 0
  have h7 : decide ((1 : Int) ≤ s.size) = true := by simp; omega
  have h6 : decide (bt s 1 - 128 < 1) = false := by simp; omega
  have h8 : decide (4 < bt s 1 - 128) = false := by simp; omega
  clear h1
  go_enter Tryd.func45, Tryd.ntmps45
  go_wp2_with fail
  go_ret3
  exact ⟨rfl, 0, rfl⟩

set_option maxRecDepth 100000 in
theorem rhead_long (s : ByteArray) (w : World) (k : Nat) (hs : s.size ≤ maxLen) (h0 : 2 ≤ s.size) (h1 : bt s 0 % 32 ≠ 31) (hk1 : 0 < k) (hk4 : k ≤ 4) (hk : bt s 1 = 128 + k) (h9 : 2 + k ≤ s.size) :
    Calls Tryd.prog 45 #[.string s] w (Tells3 (2 + k) (PB.num ((s.data.toList.drop 2).take k)) 0 w) := by
  unfold maxLen at hs
  have hg := get_bt s 0 (by omega)
  have hg1 : ((s[1]'(by omega)).toNat : Int) = 128 + k := by rw [get_bt s 1 (by omega)]; exact hk
  have h1' : (bt s 0 % 32 == 31) = false := by simp [h1]
  have h3 : 0 < s.size := by omega
  have h4 : 1 < s.size := by omega
  have b0 := bt_nonneg s 0
  have h7 : decide ((1 : Int) ≤ s.size) = true := by simp; omega
  have h6 : decide ((k : Int) < 1) = false := by simp; omega
  have h8 : decide (4 < (k : Int)) = false := by simp; omega
  have h11 : decide ((s.size : Int) < 2) = false := by simp; omega
  have h12 : decide ((s.size : Int) < 2 + k) = false := by simp; omega
  have h13 : (128 : Int) + k - 128 = k := by omega
  have h14 : decide ((128 : Int) + k < 128) = false := by simp; omega
  clear h1 hk
  go_enter Tryd.func45, Tryd.ntmps45
  go_wp2_with fail
  go_loop [5, 7] (fun n i => ∃ j : Nat, j ≤ k ∧ i = .int .i64 j ∧ n = .int .i64 (PB.num ((s.data.toList.drop 2).take j))) (fun _ i => k - (intOf i).toNat)
  case atStart => exact ⟨0, Nat.zero_le _, rfl, rfl⟩
  case round =>
    obtain ⟨j, hj, rfl, rfl⟩ := hrel
    by_cases hlt : j < k
    · have hlt' : decide ((j : Int) < k) = true := by simp; omega
      have hb := get_bt s (2 + j) (by omega)
      have hb1 := bt_nonneg s (2 + j)
      have hb2 := bt_le s (2 + j)
      have hi : 2 + j < s.size := by omega
      have HX := Lib.hid (num_next s j hi)
      have hnlt := num_small s j (by omega)
      obtain ⟨n, hn⟩ : ∃ n, n = PB.num ((s.data.toList.drop 2).take j) := ⟨_, rfl⟩
      rw [← hn] at HX hnlt ⊢
      clear hn
      go_wp2_with fail
      go_round
      case rel => exact ⟨j + 1, by omega, by go_num, by rw [HX.out]⟩
      case measure => simp [intOf]; omega
    · have hlt' : decide ((j : Int) < k) = false := by simp; omega
      obtain rfl : j = k := by omega
      go_wp2_with fail
      go_ret3
      exact ⟨rfl, 0, rfl⟩

theorem rhead_any (s : ByteArray) (w : World) (hs : s.size ≤ maxLen) :
    Calls Tryd.prog 45 #[.string s] w (Tells3 (PB.head s.data.toList).1 (PB.head s.data.toList).2.1 (PB.head s.data.toList).2.2 w) := by
  unfold PB.head
  have t0 := byt_bt s 0
  have t1 := byt_bt s 1
  rw [len_size]
  split
  · exact rhead_nil s w (by omega)
  split
  · exact rhead_form s w (by omega) (by omega)
  split
  · exact rhead_one s w (by omega) (by omega) (by omega)
  split
  · have h := rhead_small s w hs (by omega) (by omega) (by omega)
    rw [t1] at h
    exact h
  split
  · exact rhead_none s w hs (by omega) (by omega) (by omega) (by omega)
  split
  · exact rhead_cut s w hs (by omega) (by omega) (by omega) (by omega) (by omega)
  · have h := rhead_long s w (PB.byt s.data.toList 1 - 128) hs (by omega) (by omega) (by omega) (by omega) (by omega) (by omega)
    have e : ((2 + (PB.byt s.data.toList 1 - 128) : Nat) : Int) = 2 + ((PB.byt s.data.toList 1 - 128 : Nat) : Int) := by omega
    simp only [e]
    exact h

/- Length and Total -/

theorem length_any (s : ByteArray) (w : World) (hs : s.size ≤ maxLen) :
    Calls Tryd.prog 46 #[.string s] w (Tells2 (PB.total s.data.toList).1 (PB.total s.data.toList).2 w) := by
  have hl := PB.head_le s.data.toList
  have hh := head_any s w hs
  unfold PB.total
  generalize PB.head s.data.toList = p at hl hh
  obtain ⟨a, n, e⟩ := p
  dsimp only at hl hh ⊢
  obtain ⟨hl1, hl2⟩ := hl
  have HH := Lib.hid hh
  clear hh
  split
  · rename_i he
    have h1 : ((e : Int) != 0) = true := by simp; omega
    clear he
    go_enter Tryd.func46, Tryd.ntmps46
    go_wp2_with (go_at_call 72; refine HH.out.mono ?_; rintro e w' ⟨rfl, nq, rfl⟩)
    go_ret2
    exact ⟨rfl, _, rfl⟩
  · rename_i he
    obtain rfl : e = 0 := by omega
    clear he
    split
    · have h2 : decide ((8192 : Int) - a < n) = true := by simp; omega
      go_enter Tryd.func46, Tryd.ntmps46
      go_wp2_with (go_at_call 72; refine HH.out.mono ?_; rintro e w' ⟨rfl, nq, rfl⟩)
      go_ret2
      exact ⟨rfl, _, rfl⟩
    · have h2 : decide ((8192 : Int) - a < n) = false := by simp; omega
      go_enter Tryd.func46, Tryd.ntmps46
      go_wp2_with (go_at_call 72; refine HH.out.mono ?_; rintro e w' ⟨rfl, nq, rfl⟩)
      go_ret2
      exact ⟨by go_num, _, rfl⟩

theorem total_any (s : ByteArray) (w : World) (hs : s.size ≤ maxLen) :
    Calls Tryd.prog 23 #[.string s] w (Tells2 (PB.total s.data.toList).1 (PB.total s.data.toList).2 w) := by
  have hl := PB.head_le s.data.toList
  have hh := rhead_any s w hs
  unfold PB.total
  generalize PB.head s.data.toList = p at hl hh
  obtain ⟨a, n, e⟩ := p
  dsimp only at hl hh ⊢
  obtain ⟨hl1, hl2⟩ := hl
  have HH := Lib.hid hh
  clear hh
  split
  · rename_i he
    have h1 : ((e : Int) != 0) = true := by simp; omega
    clear he
    go_enter Tryd.func23, Tryd.ntmps23
    go_wp2_with (go_at_call 45; refine HH.out.mono ?_; rintro e w' ⟨rfl, nq, rfl⟩)
    go_ret2
    exact ⟨rfl, _, rfl⟩
  · rename_i he
    obtain rfl : e = 0 := by omega
    clear he
    split
    · have h2 : decide ((8192 : Int) < a + n) = true := by simp; omega
      go_enter Tryd.func23, Tryd.ntmps23
      go_wp2_with (go_at_call 45; refine HH.out.mono ?_; rintro e w' ⟨rfl, nq, rfl⟩)
      go_ret2
      exact ⟨rfl, _, rfl⟩
    · have h2 : decide ((8192 : Int) < a + n) = false := by simp; omega
      go_enter Tryd.func23, Tryd.ntmps23
      go_wp2_with (go_at_call 45; refine HH.out.mono ?_; rintro e w' ⟨rfl, nq, rfl⟩)
      go_ret2
      exact ⟨by go_num, _, rfl⟩

end Go.Proofs.YtbiglfpikfjbpaaDoor
/- Contracts of package frame: New, length, Feed, Rest, Broken. -/
namespace Go.Proofs.YtbiglfpikfjbpaaDoor
open Go.RowKit
open Go.PlainAid

/-- how long frame.length says the first value is. -/
def frontN (l : List UInt8) : Nat := if (PB.total l).2 = 0 then (PB.total l).1 else l.length + 1
theorem frontN_def (l : List UInt8) : frontN l = if (PB.total l).2 = 0 then (PB.total l).1 else l.length + 1 := rfl

/-- A call that tells an int and a bool and leaves memory as it is. -/
def TellsB (a : Int) (b : Bool) (w : World) (e : Ending) (w' : World) : Prop := e = .returned (.tuple #[.int .i64 a, .bool b]) ∧ ∃ n, w' = w.drewN n

end Go.Proofs.YtbiglfpikfjbpaaDoor
/- Contract of (*frame.Framer).Feed. -/
namespace Go.Proofs.YtbiglfpikfjbpaaDoor
open Go.RowKit
open Go.PlainAid

theorem info_string : (Tryd.prog.info? 9).map (fun i => (i.zero, i.size, i.bytes)) = some (some (.string ByteArray.empty), 1, 16) := by kernel_rfl

/-- how many bytes a slot's string has. -/
def strLen : Value → Nat | .string s => s.size | _ => 0

/-- Where a loop of Feed stands: st is told, 'all' is to come, of the bytes L. -/
def FeedAt (L : List UInt8) (st : List ByteArray) (all : ByteArray) : Prop :=
  all.size ≤ L.length ∧ st.length + all.size ≤ L.length ∧ (PB.cut L.length L).1 = st.map (·.data.toList) ++ (PB.cut L.length all.data.toList).1 ∧ (PB.cut L.length L).2 = (PB.cut L.length all.data.toList).2

theorem extract_list (s : ByteArray) (a b : Nat) : (s.extract a b).data.toList = (s.data.toList.drop a).take (b - a) := by
  rw [ByteArray.data_extract, Array.toList_extract, List.extract_eq_take_drop]

theorem append_list (a b : ByteArray) : (a ++ b).data.toList = a.data.toList ++ b.data.toList := by
  rw [ByteArray.data_append, Array.toList_append]

theorem feedAt_start (rest s : ByteArray) : FeedAt (rest.data.toList ++ s.data.toList) [] (rest ++ s) := by
  have e := append_list rest s
  refine ⟨?_, ?_, ?_, ?_⟩
  · rw [← len_size, e]; exact Nat.le_refl _
  · rw [← len_size, e]; simp
  · rw [e]; simp
  · rw [e]

theorem whole_front {l : List UInt8} (h : PB.whole l = true) : frontN l = (PB.total l).1 ∧ frontN l ≤ l.length := by
  unfold PB.whole at h
  simp at h
  unfold frontN
  rw [if_pos h.1]
  exact ⟨rfl, h.2⟩

theorem whole_not {l : List UInt8} (h : PB.whole l = false) : l.length < frontN l := by
  unfold PB.whole at h
  simp at h
  unfold frontN
  split
  · rename_i h0; exact h h0
  · omega

theorem feedAt_next {L : List UInt8} {st : List ByteArray} {all : ByteArray} {n : Nat} (h : FeedAt L st all) (h0 : 0 < all.size) (hg : PB.good all.data.toList = true) (hw : PB.whole all.data.toList = true) (hn : frontN all.data.toList = n) :
    FeedAt L (st ++ [all.extract 0 n]) (all.extract n all.size) ∧ 0 < n := by
  obtain ⟨h1, h2, h3, h4⟩ := h
  obtain ⟨hf, hle⟩ := whole_front hw
  have ht : (PB.total all.data.toList).2 = 0 := by unfold PB.whole at hw; simp at hw; exact hw.1
  have hp := PB.total_pos _ ht
  have hc := PB.cut_next L.length all.data.toList (by rw [len_size]; omega) (by rw [len_size]; omega) hg hw
  rw [← hf, hn] at hc
  rw [len_size, hn] at hle
  have e2 : (all.extract n all.size).data.toList = all.data.toList.drop n := by
    rw [extract_list, List.take_of_length_le (by rw [List.length_drop, len_size]; omega)]
  have hz : (all.extract n all.size).size = all.size - n := by rw [← len_size, e2, List.length_drop, len_size]
  refine ⟨⟨by omega, by rw [List.length_append, List.length_singleton]; omega, ?_, ?_⟩, by omega⟩
  · rw [h3, hc, List.map_append, List.append_assoc, e2]
    simp
  · rw [h4, hc, e2]

end Go.Proofs.YtbiglfpikfjbpaaDoor
/- Contracts: frame.New, Rest, Broken, and all of them at nil; the reference's Same of two lists of strings. -/
namespace Go.Proofs.YtbiglfpikfjbpaaDoor
open Go.RowKit
open Go.PlainAid

/-- A call that tells a truth and leaves memory as it is. -/
def Says (x : Bool) (w : World) (e : Ending) (w' : World) : Prop := e = .returned (.bool x) ∧ ∃ n, w' = w.drewN n

theorem says_of {x b : Bool} {w w' : World} (h : x = b) (hw : ∃ n, w' = w.drewN n) : Says x w (.returned (.bool b)) w' := by
  subst h
  exact ⟨rfl, hw⟩

theorem take_both (ss tt : List ByteArray) (k : Nat) (h1 : k < ss.length) (h2 : k < tt.length) (h : ss.take k = tt.take k) (he : ss[k] = tt[k]) : ss.take (k + 1) = tt.take (k + 1) := by
  rw [List.take_succ_eq_append_getElem h1, List.take_succ_eq_append_getElem h2, h, he]
theorem differ_at (ss tt : List ByteArray) (k : Nat) (h1 : k < ss.length) (h2 : k < tt.length) (he : ¬ ss[k] = tt[k]) : ¬ ss = tt := by
  rintro rfl
  exact he rfl
theorem all_same (ss tt : List ByteArray) (k : Nat) (h1 : ss.length ≤ k) (hl : ss.length = tt.length) (h : ss.take k = tt.take k) : ss = tt := by
  rw [List.take_of_length_le h1, List.take_of_length_le (by omega)] at h
  exact h
theorem toList_ne {x y : ByteArray} (h : ¬ x = y) : (x.toList == y.toList) = false := by
  rw [ByteArray.toList_eq, ByteArray.toList_eq]
  have : ¬ x.data.toList = y.data.toList := fun e => h (by cases x; cases y; simp at e; rw [e])
  simpa using this

set_option maxRecDepth 100000 in
theorem same_any (w : World) (A B : Option Addr) (c d : Nat) (ss tt : List ByteArray) (hs : ss.length ≤ 1000000) (_ht : tt.length ≤ 1000000)
    (ha : Sl w A (ss.map Value.string)) (hb : Sl w B (tt.map Value.string)) :
    Calls Tryd.prog 34 #[.slice A ss.length c, .slice B tt.length d] w (Says (decide (ss = tt)) w) := by
  by_cases hl : ss.length = tt.length
  · have h1 : ((ss.length : Int) != tt.length) = false := by simp [hl]
    have HL := Lib.hid hl
    clear hl
    go_enter Tryd.func34, Tryd.ntmps34
    go_wp2_with fail
    go_loopw [5] (fun i wr => ∃ k : Nat, k ≤ ss.length ∧ i = .int .i64 k ∧ Hid (ss.take k = tt.take k) ∧ ∃ nq, wr = w.drewN nq) (fun i _ => ss.length - (intOf i).toNat)
    case atStart => exact ⟨0, Nat.zero_le _, rfl, rfl, 0, rfl⟩
    case round =>
      obtain ⟨k, hk, rfl, HT, nq, rfl⟩ := hrel
      by_cases hlt : k < ss.length
      · have hlt2 : k < tt.length := by rw [← HL.out]; exact hlt
        obtain ⟨x, hx⟩ : ∃ x, x = ss[k] := ⟨_, rfl⟩
        obtain ⟨y, hy⟩ : ∃ y, y = tt[k] := ⟨_, rfl⟩
        obtain ⟨b1, o1, rfl, hb1, hc1⟩ := ha k (.string x) (by rw [List.getElem?_map, List.getElem?_eq_getElem hlt, hx]; rfl)
        obtain ⟨b2, o2, rfl, hb2, hc2⟩ := hb k (.string y) (by rw [List.getElem?_map, List.getElem?_eq_getElem hlt2, hy]; rfl)
        have HX := Lib.hid hx
        have HY := Lib.hid hy
        clear hx hy
        by_cases hxy : x = y
        · have h5 : (x.toList == y.toList) = true := by simp [hxy]
          have HE := Lib.hid (take_both ss tt k hlt hlt2 HT.out (by rw [← HX.out, ← HY.out]; exact hxy))
          clear hxy
          go_wp2_with fail
          go_quiet (fail)
          go_wp2_with fail
          go_roundw
          case rel => exact ⟨k + 1, by omega, by go_num, HE, _, rfl⟩
          case measure => simp [intOf]; omega
        · have h5 : (x.toList == y.toList) = false := toList_ne hxy
          have HE := Lib.hid (decide_eq_false (differ_at ss tt k hlt hlt2 (by rw [← HX.out, ← HY.out]; exact hxy)))
          clear hxy
          go_wp2_with fail
          go_quiet (fail)
          go_wp2_with fail
          go_ret
          exact says_of HE.out ⟨_, World.drewN_drewN _ _ _⟩
      · have HE := Lib.hid (decide_eq_true (all_same ss tt k (by omega) HL.out HT.out))
        go_wp2_with fail
        go_ret
        exact says_of HE.out ⟨_, rfl⟩
  · have h1 : ((ss.length : Int) != tt.length) = true := by simp; omega
    have h2 : ¬ ss = tt := fun e => hl (by rw [e])
    have h3 : decide (ss = tt) = false := by simp [h2]
    rw [h3]
    clear hl h2 h3
    go_enter Tryd.func34, Tryd.ntmps34
    go_wp2_with fail
    go_ret
    exact ⟨rfl, 0, rfl⟩

end Go.Proofs.YtbiglfpikfjbpaaDoor
/- rollbooklaw27.FrameNil returns true for every string: a framer that is not there tells nothing. No condition. -/
namespace Go.Proofs.YtbiglfpikfjbpaaDoor
open Go.RowKit
open Go.PlainAid

/-- A law's call: it returns true, and nothing that was there has turned. -/
def Holds (w : World) (e : Ending) (w' : World) : Prop := e = .returned (.bool true) ∧ Below w.heap.size w w'

theorem cut_ex1 : PB.cut 3 [48, 2, 2] = ([], [48, 2, 2], false) := by decide
theorem cut_ex2 : PB.cut 5 [48, 2, 2, 1, 48] = ([[48, 2, 2, 1]], [48], false) := by decide

theorem one_string {st : List ByteArray} {l : List UInt8} (h : st.map (·.data.toList) = [l]) : st = [⟨l.toArray⟩] := by
  match st, h with
  | [x], h =>
    simp at h
    subst h
    rfl

theorem str_of_list {r : ByteArray} {l : List UInt8} (h : r.data.toList = l) : r = ⟨l.toArray⟩ := by
  subst h; rfl

end Go.Proofs.YtbiglfpikfjbpaaDoor
/- Contracts of the reference's framer: Byte and Feed. -/
namespace Go.Proofs.YtbiglfpikfjbpaaDoor
open Go.RowKit
open Go.PlainAid

theorem info_u8 : (Tryd.prog.info? 5).map (fun i => (i.zero, i.size, i.bytes)) = some (some (.int .u8 0), 1, 1) := by kernel_rfl

/-- bytes as cells. -/
def u8s (l : List UInt8) : List Value := l.map fun c => .int .u8 c.toNat
theorem u8s_len (l : List UInt8) : (u8s l).length = l.length := by simp [u8s]
theorem u8s_app (a b : List UInt8) : u8s (a ++ b) = u8s a ++ u8s b := by simp [u8s]

/-- Where a new row may lie: where the old one lay, or in a new block. -/
def Moved (w : World) (v v' : Value) : Prop := ∀ g, v'.ownBlock = some g → v.ownBlock = some g ∨ w.heap.size ≤ g

theorem own_bk {w : World} {base : Nat} {e : TypeId} {n m cap g : Nat} {v : Value} {xs : List Value} (h : w.ownsRow base e 1 v n xs) (hv : v = .slice (some ⟨g, 0, none⟩) m cap) :
    ∃ cur, Bk w g e cur := by
  subst hv
  rcases h.2 with ⟨h0, _⟩ | ⟨g', cap', cur, h0, _, hh, _⟩
  · cases h0
  · injection h0 with h1
    injection h1 with h1
    injection h1 with h1
    subst h1
    exact ⟨cur, hh⟩

theorem add_zero_addr (g j : Nat) : (⟨g, 0, none⟩ : Addr).add j = ⟨g, j, none⟩ := by
  unfold Addr.add
  by_cases h0 : j = 0 <;> simp [h0]

theorem own_u8_cell {W : World} {B g n cap : Nat} {L : List UInt8} (h : W.ownsRow B 5 1 (.slice (some ⟨g, 0, none⟩) n cap) L.length (u8s L)) (j : Nat) (hj : j < L.length) :
    W.cell? ⟨g, j, none⟩ = some (.int .u8 (PB.byt L j : Nat)) := by
  have h1 := h.cells (g := g) rfl j (.int .u8 (PB.byt L j : Nat)) (by
    unfold u8s PB.byt
    rw [List.getElem?_map, List.getElem?_eq_getElem hj, List.getD_eq_getElem?_getD, List.getElem?_eq_getElem hj]
    rfl)
  rw [add_zero_addr] at h1
  exact h1

theorem conv_own {W : World} {B g n cap : Nat} {L : List UInt8} (h : W.ownsRow B 5 1 (.slice (some ⟨g, 0, none⟩) n cap) L.length (u8s L)) :
    (convert 69 9 (.slice (some ⟨g, 0, none⟩) n cap)).run Tryd.prog W = .ok (.string ⟨L.toArray⟩) W := by
  have hn : n = L.length := by
    rcases h.2 with ⟨h0, _⟩ | ⟨g', cap', cur, h0, _⟩
    · cases h0
    · injection h0
  have h1 := run_convert_bytes_arg W 69 5 Tryd.underlying69 Tryd.underlying5 g 0 n cap (L.map fun c => (c.toNat : Int)) (by simp [hn]) (fun i hi => by
    rw [Nat.zero_add, own_u8_cell h i (by omega)]
    unfold PB.byt
    rw [List.getD_eq_getElem?_getD, List.getD_eq_getElem?_getD, List.getElem?_map, List.getElem?_eq_getElem (by omega)]
    rfl) 9 Tryd.underlying9
  rw [h1]
  have e : strOfNums (L.map fun c => (c.toNat : Int)) = ⟨L.toArray⟩ := by
    apply str_of_list
    rw [strOfNums_data, List.map_map]
    have : (fun n : Int => UInt8.ofNat n.toNat) ∘ (fun c : UInt8 => (c.toNat : Int)) = id := by
      funext c
      simp
    rw [this, List.map_id]
  rw [e]

end Go.Proofs.YtbiglfpikfjbpaaDoor

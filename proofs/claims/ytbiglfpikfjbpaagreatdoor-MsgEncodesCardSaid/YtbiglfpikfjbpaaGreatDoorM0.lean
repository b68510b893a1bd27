import Derived.WalkKit
import Derived.PlainAid
import Derived.Test.YtbiglfpikfjbpaaGreatDoorChecked
import Derived.WalkSpells
import Derived.WalkLawsBesides
import Derived.Deep.QuietTactic
import Derived.BigQuiet
import Derived.Lib.Hide
import Derived.Deep.Draws
import Derived.Deep.AppendLies
import Derived.OneCell
import Derived.Laws.Rows
import Derived.Deep.LoopGhost
import Derived.Outline
import Derived.Maps.AppendAt
import Derived.Laws.BytesArg
import Derived.Deep.DeepCutAuto
namespace Go.Proofs.YtbiglfpikfjbpaaGreatDoor
open Go.RowKit
open Go.PlainAid
set_option maxRecDepth 100000
set_option linter.unusedVariables false
set_option linter.unusedSimpArgs false
set_option maxHeartbeats 40000000
theorem aa {p : Prop} (h : p) : RowKit.Hid p := Lib.hid h
theorem ab {p : Prop} [Decidable p] (h : p) : decide p = true := decide_eq_true h
theorem ae {p : Prop} [Decidable p] (h : ¬p) : decide p = false := decide_eq_false h
namespace PB
def num (l : List UInt8) : Nat:=l.foldl (fun n c => n * 256 + c.toNat) 0
theorem num_snoc (l : List UInt8) (c : UInt8) : num (l ++ [c]) = num l * 256 + c.toNat:=by
 simp [num]
theorem num_go (l : List UInt8) : ∀ a : Nat,l.foldl (fun n c => n * 256 + c.toNat) a < (a + 1) * 256 ^ l.length:=by
 induction l with
 | nil => intro a; simp
 | cons c l ih =>
  intro a
  have h:=ih (a * 256 + c.toNat)
  have hc:=c.toNat_lt
  have h2 : (a * 256 + c.toNat + 1) * 256 ^ l.length <= ((a + 1) * 256) * 256 ^ l.length:=Nat.mul_le_mul_right _ (by omega)
  rw [List.foldl_cons,List.length_cons,Nat.pow_succ,Nat.mul_comm (256 ^ l.length) 256,<- Nat.mul_assoc]
  omega
theorem num_lt (l : List UInt8) : num l < 256 ^ l.length:=by
 have h:=num_go l 0
 rw [Nat.zero_add,Nat.one_mul] at h
 exact h
def byt (l : List UInt8) (k : Nat) : Nat:=(l.getD k 0).toNat
theorem byt_lt (l : List UInt8) (k : Nat) : byt l k < 256:=(l.getD k 0).toNat_lt
def head (l : List UInt8) : Nat × Nat × Nat :=
 if l.length = 0 then (0,0,3) else
 if byt l 0 % 32 = 31 then (0,0,4) else
 if l.length < 2 then (0,0,3) else
 if byt l 1 < 128 then (2,byt l 1,0) else
 if byt l 1 = 128 \/ 132 < byt l 1 then (0,0,4) else
 if l.length < 2 + (byt l 1 - 128) then (0,0,3) else
 (2 + (byt l 1 - 128),num ((l.drop 2).take (byt l 1 - 128)),0)
theorem head_le (l : List UInt8) : (head l).1 <= 6 /\ (head l).2.1 < 4294967296:=by
 have hb:=byt_lt l 1
 unfold head
 repeat' split
 all_goals first | (refine ⟨?_,?_⟩ <;> simp only <;> omega) | skip
 rename_i h6
 refine ⟨show 2 + (byt l 1 - 128) <= 6 by omega,?_⟩
 have hl : ((l.drop 2).take (byt l 1 - 128)).length <= 4:=by rw [List.length_take,List.length_drop]; omega
 have hp : 256 ^ ((l.drop 2).take (byt l 1 - 128)).length <= 256 ^ 4:=Nat.pow_le_pow_right (by omega) hl
 rw [show (256 : Nat) ^ 4 = 4294967296 from by decide] at hp
 have h:=num_lt ((l.drop 2).take (byt l 1 - 128))
 generalize 256 ^ ((l.drop 2).take (byt l 1 - 128)).length = x at h hp
 dsimp only
 omega
def total (l : List UInt8) : Nat × Nat :=
 if (head l).2.2 ≠ 0 then (0,(head l).2.2) else
 if 8192 < (head l).1 + (head l).2.1 then (0,5) else ((head l).1 + (head l).2.1,0)
end PB
theorem wraps_i64 (n : Int) (h₀ : 0 <= n) (h₁ : n < 2 ^ 40) : IntKind.i64.wrap n = n:=by rw [IntKind.wrap_i64]; omega
theorem nat_or_256 (n c : Nat) (hc : c < 256) : n * 256 ||| c = n * 256 + c:=by
 have h:=Nat.two_pow_add_eq_or_of_lt (i:=8) (b:=c) (by simpa using hc) n
 have e : (2 : Nat) ^ 8 * n = n * 256:=by omega
 rw [e] at h
 exact h.symm
theorem i64_or_256 (n c : Int) (h0 : 0 <= n) (h1 : n < 16777216) (h2 : 0 <= c) (h3 : c <= 255) : bits BinOp.or IntKind.i64 (n * 256) c = n * 256 + c:=by
 obtain ⟨a,rfl⟩:=Int.eq_ofNat_of_zero_le h0
 obtain ⟨b,rfl⟩:=Int.eq_ofNat_of_zero_le h2
 have h4 : a * 256 < 2 ^ 40:=by omega
 have h5 : b < 2 ^ 40:=by omega
 have h:=(bits_nat .i64 40 (by decide) wraps_i64 (a * 256) b h4 h5).2
 rw [nat_or_256 a b (by omega)] at h
 have e : ((a * 256 : Nat) : Int) = (a : Int) * 256:=by omega
 rw [Int.natCast_add,e] at h
 exact h
theorem u8_top (c : Int) (h1 : 128 <= c) (h2 : c <= 255) : bits BinOp.andNot IntKind.u8 c 128 = c - 128:=by
 obtain ⟨a,rfl⟩:=Int.eq_ofNat_of_zero_le (show 0 <= c by omega)
 have h:=u8_andNot_nat a 128 (by omega) (by omega)
 have e : a &&& 127 = a % 128:=Nat.and_two_pow_sub_one_eq_mod a 7
 rw [show 255 - 128 = 127 from rfl,e] at h
 exact h.trans (by omega)
theorem dr {s : ByteArray} (h : 0 < s.size) : s.toList.isEmpty = false:=by
 rw [ByteArray.toList_eq]
 cases hl : s.data.toList with
 | nil => exfalso; have : s.data.toList.length = s.size:=rfl; rw [hl] at this; simp at this; omega
 | cons _ _ => rfl
theorem bt_list (s : ByteArray) (k : Nat) : bt s k = ((s.data.toList.getD k 0).toNat : Int):=by
 unfold bt
 split
 ·rename_i h
  have h' : k < s.data.toList.length:=by simpa using h
  rw [List.getD_eq_getElem?_getD,List.getElem?_eq_getElem h']
  rfl
 ·rename_i h
  rw [List.getD_eq_getElem?_getD,List.getElem?_eq_none (by simpa using h)]
  rfl
def eg (a b c : Int) (w : World) (e : Ending) (w' : World) : Prop:=e = .returned (.tuple #[.int .i64 a,.int .i64 b,.int .i64 c]) /\ ∃ n,w' = w.drewN n
def Tells2 (a b : Int) (w : World) (e : Ending) (w' : World) : Prop:=e = .returned (.tuple #[.int .i64 a,.int .i64 b]) /\ ∃ n,w' = w.drewN n
theorem dp (s : ByteArray) (k : Nat) : bt s k = (PB.byt s.data.toList k : Int):=bt_list s k
theorem ax (s : ByteArray) : s.data.toList.length = s.size:=rfl
theorem take_next (s : ByteArray) (j : Nat) (h : 2 + j < s.size) : (s.data.toList.drop 2).take (j + 1) = (s.data.toList.drop 2).take j ++ [s.data.toList.getD (2 + j) 0]:=by
 have h' : j < (s.data.toList.drop 2).length:=by rw [List.length_drop,ax]; omega
 rw [List.take_succ_eq_append_getElem h',List.getElem_drop,List.getD_eq_getElem?_getD,List.getElem?_eq_getElem (by rw [ax]; omega)]
 rfl
theorem num_next (s : ByteArray) (j : Nat) (h : 2 + j < s.size) : (PB.num ((s.data.toList.drop 2).take (j + 1)) : Int) = (PB.num ((s.data.toList.drop 2).take j) : Int) * 256 + bt s (2 + j):=by
 rw [take_next s j h,PB.num_snoc,dp]
 unfold PB.byt
 omega
theorem num_small (s : ByteArray) (j : Nat) (h : j <= 3) : PB.num ((s.data.toList.drop 2).take j) < 16777216:=by
 have h1:=PB.num_lt ((s.data.toList.drop 2).take j)
 have hl : ((s.data.toList.drop 2).take j).length <= 3:=by rw [List.length_take]; omega
 have hp : 256 ^ ((s.data.toList.drop 2).take j).length <= 256 ^ 3:=Nat.pow_le_pow_right (by omega) hl
 rw [show (256 : Nat) ^ 3 = 16777216 from by decide] at hp
 generalize 256 ^ ((s.data.toList.drop 2).take j).length = x at h1 hp
 omega
theorem head_nil (s : ByteArray) (w : World) (h0 : s.size = 0) :
  Calls Tryz.prog 92 #[.string s] w (eg 0 0 3 w):=by
 obtain rfl : s = ByteArray.empty:=by simpa [ByteArray.size_eq_zero_iff] using h0
 go_enter Tryz.func92,Tryz.ntmps92
 go_wp2
 go_ret3
 exact ⟨rfl,0,rfl⟩
theorem head_form (s : ByteArray) (w : World) (h0 : 0 < s.size) (h1 : bt s 0 % 32 = 31) :
  Calls Tryz.prog 92 #[.string s] w (eg 0 0 4 w):=by
 have hne:=dr h0
 have hg:=get_bt s 0 h0
 have e0:=u8_and31 _ (bt_nonneg s 0) (by have:=bt_le s 0; omega)
 have h1' : (bt s 0 % 32 == 31) = true:=by simp [h1]
 clear h1
 go_enter Tryz.func92,Tryz.ntmps92
 go_wp2_with fail
 go_ret3
 exact ⟨rfl,0,rfl⟩
theorem head_one (s : ByteArray) (w : World) (h0 : 0 < s.size) (h2 : s.size < 2) (h1 : bt s 0 % 32 ≠ 31) :
  Calls Tryz.prog 92 #[.string s] w (eg 0 0 3 w):=by
 have hne:=dr h0
 have hg:=get_bt s 0 h0
 have e0:=u8_and31 _ (bt_nonneg s 0) (by have:=bt_le s 0; omega)
 have h1' : (bt s 0 % 32 == 31) = false:=by simp [h1]
 clear h1
 go_enter Tryz.func92,Tryz.ntmps92
 go_wp2_with fail
 go_ret3
 exact ⟨rfl,0,rfl⟩
theorem head_small (s : ByteArray) (w : World) (hs : s.size <= maxLen) (h0 : 2 <= s.size) (h1 : bt s 0 % 32 ≠ 31) (h2 : bt s 1 < 128) :
  Calls Tryz.prog 92 #[.string s] w (eg 2 (bt s 1) 0 w):=by
 unfold maxLen at hs
 have hne:=dr (s:=s) (by omega)
 have hg:=get_bt s 0 (by omega)
 have hg1:=get_bt s 1 (by omega)
 have e0:=u8_and31 _ (bt_nonneg s 0) (by have:=bt_le s 0; omega)
 have h1' : (bt s 0 % 32 == 31) = false:=by simp [h1]
 have h3 : 0 < s.size:=by omega
 have h4 : 1 < s.size:=by omega
 have b1:=bt_nonneg s 1
 have b2:=bt_le s 1
 clear h1
 go_enter Tryz.func92,Tryz.ntmps92
 go_wp2_with fail
 go_quiet (fail)
 go_wp2_with fail
 go_ret3
 exact ⟨rfl,_,rfl⟩
theorem head_none (s : ByteArray) (w : World) (hs : s.size <= maxLen) (h0 : 2 <= s.size) (h1 : bt s 0 % 32 ≠ 31) (h2 : 128 <= bt s 1) (h5 : bt s 1 = 128 \/ 132 < bt s 1) :
  Calls Tryz.prog 92 #[.string s] w (eg 0 0 4 w):=by
 unfold maxLen at hs
 have hne:=dr (s:=s) (by omega)
 have hg:=get_bt s 0 (by omega)
 have hg1:=get_bt s 1 (by omega)
 have e0:=u8_and31 _ (bt_nonneg s 0) (by have:=bt_le s 0; omega)
 have h1' : (bt s 0 % 32 == 31) = false:=by simp [h1]
 have h3 : 0 < s.size:=by omega
 have h4 : 1 < s.size:=by omega
 have b2:=bt_le s 1
 have e1:=u8_top (bt s 1) h2 b2
 clear h1
 rcases h5 with h5 | h5
 ·have h6 : (bt s 1 - 128 == 0) = true:=by simp; omega
  have h7 : 0 <= bt s 1 - 128:=by omega
  clear h5
  go_enter Tryz.func92,Tryz.ntmps92
  go_wp2_with fail
  go_ret3
  exact ⟨rfl,0,rfl⟩
 ·have h6 : (bt s 1 - 128 == 0) = false:=by simp; omega
  have h8 : decide (4 < bt s 1 - 128) = true:=by simp; omega
  go_enter Tryz.func92,Tryz.ntmps92
  go_wp2_with fail
  go_ret3
  exact ⟨rfl,0,rfl⟩
theorem head_cut (s : ByteArray) (w : World) (hs : s.size <= maxLen) (h0 : 2 <= s.size) (h1 : bt s 0 % 32 ≠ 31) (h2 : 128 < bt s 1) (h5 : bt s 1 <= 132) (h9 : s.size < 2 + (bt s 1 - 128)) :
  Calls Tryz.prog 92 #[.string s] w (eg 0 0 3 w):=by
 unfold maxLen at hs
 have hne:=dr (s:=s) (by omega)
 have hg:=get_bt s 0 (by omega)
 have hg1:=get_bt s 1 (by omega)
 have e0:=u8_and31 _ (bt_nonneg s 0) (by have:=bt_le s 0; omega)
 have h1' : (bt s 0 % 32 == 31) = false:=by simp [h1]
 have h3 : 0 < s.size:=by omega
 have h4 : 1 < s.size:=by omega
 have b2:=bt_le s 1
 have e1:=u8_top (bt s 1) (by omega) b2
 have h6 : (bt s 1 - 128 == 0) = false:=by simp; omega
 have h8 : decide (4 < bt s 1 - 128) = false:=by simp; omega
 clear h1
 go_enter Tryz.func92,Tryz.ntmps92
 go_wp2_with fail
 go_ret3
 exact ⟨rfl,0,rfl⟩
theorem head_long (s : ByteArray) (w : World) (k : Nat) (hs : s.size <= maxLen) (h0 : 2 <= s.size) (h1 : bt s 0 % 32 ≠ 31) (hk1 : 0 < k) (hk4 : k <= 4) (hk : bt s 1 = 128 + k) (h9 : 2 + k <= s.size) :
  Calls Tryz.prog 92 #[.string s] w (eg (2 + k) (PB.num ((s.data.toList.drop 2).take k)) 0 w):=by
 unfold maxLen at hs
 have hne:=dr (s:=s) (by omega)
 have hg:=get_bt s 0 (by omega)
 have hg1:=get_bt s 1 (by omega)
 have e0:=u8_and31 _ (bt_nonneg s 0) (by have:=bt_le s 0; omega)
 have h1' : (bt s 0 % 32 == 31) = false:=by simp [h1]
 have h3 : 0 < s.size:=by omega
 have h4 : 1 < s.size:=by omega
 have b2:=bt_le s 1
 have e1 : bits BinOp.andNot IntKind.u8 (bt s 1) 128 = k:=by rw [u8_top (bt s 1) (by omega) b2]; omega
 have h6 : ((k : Int) == 0) = false:=by simp; omega
 have h8 : decide (4 < (k : Int)) = false:=by simp; omega
 have h10 : ¬ bt s 1 < 128:=by omega
 have h11 : decide ((s.size : Int) < 2) = false:=by simp; omega
 have h12 : decide ((s.size : Int) < 2 + k) = false:=by simp; omega
 clear h1 hk
 go_enter Tryz.func92,Tryz.ntmps92
 go_wp2_with fail
 go_loop [6,45] (fun n i => ∃ j : Nat,j <= k /\ i = .int .i64 j /\ n = .int .i64 (PB.num ((s.data.toList.drop 2).take j))) (fun _ i => k - (intOf i).toNat)
 case atStart => exact ⟨0,Nat.zero_le _,rfl,rfl⟩
 case round =>
  obtain ⟨j,hj,rfl,rfl⟩:=hrel
  by_cases hlt : j < k
  ·have hlt' : decide ((j : Int) < k) = true:=by simp; omega
   have hb:=get_bt s (2 + j) (by omega)
   have hb1:=bt_nonneg s (2 + j)
   have hb2:=bt_le s (2 + j)
   have hi : 2 + j < s.size:=by omega
   have HX:=aa (num_next s j hi)
   have hnlt:=num_small s j (by omega)
   obtain ⟨n,hn⟩ : ∃ n,n = PB.num ((s.data.toList.drop 2).take j):=⟨_,rfl⟩
   rw [<- hn] at HX hnlt |-
   have HY:=aa (i64_or_256 n (bt s (2 + j)) (by omega) (by omega) hb1 hb2)
   clear hn
   go_wp2_with fail
   go_round
   case rel => exact ⟨j + 1,by omega,by go_num,by rw [HY.out,HX.out]⟩
   case measure => simp [intOf]; omega
  ·have hlt' : decide ((j : Int) < k) = false:=by simp; omega
   obtain rfl : j = k:=by omega
   go_wp2_with fail
   go_ret3
   exact ⟨rfl,0,rfl⟩
theorem dL (s : ByteArray) (w : World) (hs : s.size <= maxLen) :
  Calls Tryz.prog 92 #[.string s] w (eg (PB.head s.data.toList).1 (PB.head s.data.toList).2.1 (PB.head s.data.toList).2.2 w):=by
 unfold PB.head
 have t0:=dp s 0
 have t1:=dp s 1
 rw [ax]
 split
 ·exact head_nil s w (by omega)
 split
 ·exact head_form s w (by omega) (by omega)
 split
 ·exact head_one s w (by omega) (by omega) (by omega)
 split
 ·have h:=head_small s w hs (by omega) (by omega) (by omega)
  rw [t1] at h
  exact h
 split
 ·exact head_none s w hs (by omega) (by omega) (by omega) (by omega)
 split
 ·exact head_cut s w hs (by omega) (by omega) (by omega) (by omega) (by omega)
 ·have h:=head_long s w (PB.byt s.data.toList 1 - 128) hs (by omega) (by omega) (by omega) (by omega) (by omega) (by omega)
  have e : ((2 + (PB.byt s.data.toList 1 - 128) : Nat) : Int) = 2 + ((PB.byt s.data.toList 1 - 128 : Nat) : Int):=by omega
  simp only [e]
  exact h
def Bk (w : World) (g : Nat) (t : TypeId) (cs : Array Value) : Prop:=w.heap[g]? = some (.cells cs t (0,0))
theorem Bk.lt {w : World} {g : Nat} {t : TypeId} {cs : Array Value} (h : Bk w g t cs) : g < w.heap.size:=lt_of_block h
theorem Bk.cell {w : World} {g : Nat} {t : TypeId} {cs : Array Value} (h : Bk w g t cs) (i : Nat) : w.cell? ⟨g,i,none⟩ = cs[i]?:=cell_of_row w g i cs t (0,0) h
theorem Bk.frozen {w : World} {g : Nat} {t : TypeId} {cs : Array Value} (h : Bk w g t cs) (i : Nat) : w.frozen? ⟨g,i,none⟩ = false:=by
 unfold Bk at h
 simp [World.frozen?,h]
theorem Bk.drewN {w : World} {g : Nat} {t : TypeId} {cs : Array Value} (h : Bk w g t cs) (n : Nat) : Bk (w.drewN n) g t cs:=h
theorem Bk.drew {w : World} {g : Nat} {t : TypeId} {cs : Array Value} (h : Bk w g t cs) : Bk w.drew g t cs:=h
theorem Bk.alloc {w : World} {g : Nat} {t : TypeId} {cs : Array Value} (h : Bk w g t cs) (o : Obj) : Bk (w.alloc o) g t cs:=(Below.heap_alloc w o g h.lt).trans h
theorem Bk.new (w : World) (t : TypeId) (cs : Array Value) : Bk (w.alloc (.cells cs t)) w.heap.size t cs:=heap_alloc_new w _
theorem Bk.put {w : World} {g : Nat} {t : TypeId} {cs : Array Value} (h : Bk w g t cs) (i : Nat) (u : Value) : Bk (w.setCell ⟨g,i,none⟩ u) g t (cs.setIfInBounds i u):=by
 unfold Bk at h |-
 simp [World.setCell,Array.getElem?_modify,h]
theorem Bk.far {w : World} {g : Nat} {t : TypeId} {cs : Array Value} (h : Bk w g t cs) {p : Addr} (hp : g ≠ p.block) (u : Value) : Bk (w.setCell p u) g t cs:=(Below.heap_setCell w p u g hp).trans h
theorem Bk.ne {w : World} {g g' : Nat} {t t' : TypeId} {cs cs' : Array Value} (h : Bk w g t cs) (h' : Bk w g' t' cs') (hne : t ≠ t') : g ≠ g':=by
 rintro rfl
 unfold Bk at h h'
 rw [h] at h'
 injection h' with h'
 injection h' with _ ht
 exact hne ht
structure Off (S : List Nat) (w w' : World) : Prop where
 os : w'.os = w.os
 tape : w'.tape = w.tape
 output : w'.output = w.output
 size : w.heap.size <= w'.heap.size
 block : ∀ k,k < w.heap.size -> k ∉ S -> w'.heap[k]? = w.heap[k]?
theorem Off.refl (S : List Nat) (w : World) : Off S w w:=⟨rfl,rfl,rfl,Nat.le_refl _,fun _ _ _ => rfl⟩
theorem Off.trans {S : List Nat} {a b c : World} (h : Off S a b) (k : Off S b c) : Off S a c :=
 ⟨k.os.trans h.os,k.tape.trans h.tape,k.output.trans h.output,Nat.le_trans h.size k.size,fun i hi hn => (k.block i (Nat.lt_of_lt_of_le hi h.size) hn).trans (h.block i hi hn)⟩
theorem Off.then {S T : List Nat} {a b c : World} (h : Off S a b) (k : Off T b c) (hT : ∀ g ∈ T,g ∈ S \/ a.heap.size <= g) : Off S a c :=
 ⟨k.os.trans h.os,k.tape.trans h.tape,k.output.trans h.output,Nat.le_trans h.size k.size,fun i hi hn =>
  (k.block i (Nat.lt_of_lt_of_le hi h.size) (fun ht => (hT i ht).elim hn (fun h1 => absurd hi (by omega)))).trans (h.block i hi hn)⟩
theorem Off.mono {S T : List Nat} {a b : World} (h : Off S a b) (hT : ∀ g ∈ S,g ∈ T \/ a.heap.size <= g) : Off T a b :=
 ⟨h.os,h.tape,h.output,h.size,fun i hi hn => h.block i hi (fun ht => (hT i ht).elim hn (fun h1 => absurd hi (by omega)))⟩
theorem Off.drew {S : List Nat} {a w : World} (h : Off S a w) : Off S a w.drew:=⟨h.os,h.tape,h.output,h.size,h.block⟩
theorem Off.drewN {S : List Nat} {a w : World} (h : Off S a w) (n : Nat) : Off S a (w.drewN n):=⟨h.os,h.tape,h.output,h.size,h.block⟩
theorem Off.alloc {S : List Nat} {a w : World} (h : Off S a w) (o : Obj) : Off S a (w.alloc o) :=
 ⟨h.os,h.tape,h.output,Nat.le_trans h.size (by simp),fun i hi hn => (Below.heap_alloc w o i (Nat.lt_of_lt_of_le hi h.size)).trans (h.block i hi hn)⟩
theorem Off.setCell {S : List Nat} {a w : World} (h : Off S a w) {p : Addr} (hp : p.block ∈ S \/ a.heap.size <= p.block) (u : Value) : Off S a (w.setCell p u) :=
 ⟨h.os,h.tape,h.output,by simpa [World.setCell] using h.size,fun i hi hn => (Below.heap_setCell w p u i (by
  rintro rfl
  rcases hp with hp | hp
  ·exact hn hp
  ·omega)).trans (h.block i hi hn)⟩
theorem Off.grown {S : List Nat} {a w w' : World} {row : Option Nat} (h : Off S a w) (hg : w.grownBy w' row) (hr : ∀ g,row = some g -> g ∈ S \/ a.heap.size <= g) : Off S a w' :=
 ⟨hg.os.trans h.os,hg.tape.trans h.tape,hg.output.trans h.output,Nat.le_trans h.size hg.size,fun i hi hn =>
  (hg.block i (Nat.lt_of_lt_of_le hi h.size) (fun e => (hr i e.symm).elim hn (fun h1 => absurd hi (by omega)))).trans (h.block i hi hn)⟩
theorem Off.of_below {w w' : World} (h : Below w.heap.size w w') (S : List Nat) : Off S w w':=⟨h.os,h.tape,h.output,h.size,fun i hi _ => h.block i hi⟩
theorem Off.below {S : List Nat} {w w' : World} (h : Off S w w') {B : Nat} (hB : B <= w.heap.size) (hS : ∀ g ∈ S,B <= g) : Below B w w' :=
 ⟨h.os,h.tape,h.output,h.size,fun i hi => h.block i (by omega) (fun hs => by have:=hS i hs; omega)⟩
theorem Off.bk {S : List Nat} {w w' : World} (h : Off S w w') {g : Nat} {t : TypeId} {cs : Array Value} (hb : Bk w g t cs) (hg : g ∉ S) : Bk w' g t cs:=(h.block g hb.lt hg).trans hb
theorem Off.cell {S : List Nat} {w w' : World} (h : Off S w w') {p : Addr} (hp : p.block < w.heap.size) (hn : p.block ∉ S) : w'.cell? p = w.cell? p:=World.cell?_of_block (h.block p.block hp hn)
theorem Off.own {S : List Nat} {w w' : World} (h : Off S w w') {base : Nat} {e : TypeId} {size n : Nat} {v : Value} {xs : List Value} (ho : w.ownsRow base e size v n xs) (hn : ∀ g,v.ownBlock = some g -> g ∉ S) : w'.ownsRow base e size v n xs:=by
 obtain ⟨h1,h2⟩:=ho
 refine ⟨h1,?_⟩
 rcases h2 with h2 | ⟨g,cap,cur,rfl,hb,hh,r⟩
 ·exact Or.inl h2
 ·exact Or.inr ⟨g,cap,cur,rfl,hb,(h.block g (lt_of_block hh) (hn g rfl)).trans hh,r⟩
def Sl (w : World) (A : Option Addr) (xs : List Value) : Prop:=∀ (j : Nat) (u : Value),xs[j]? = some u -> ∃ b o,A = some ⟨b,o,none⟩ /\ b < w.heap.size /\ w.cell? ⟨b,o + j,none⟩ = some u
theorem Sl.nil (w : World) (A : Option Addr) : Sl w A []:=fun j u h => by simp at h
theorem Sl.off {S : List Nat} {w w' : World} {A : Option Addr} {xs : List Value} (h : Sl w A xs) (ho : Off S w w') (hn : ∀ a,A = some a -> a.block ∉ S) : Sl w' A xs:=by
 intro j u hu
 obtain ⟨b,o,rfl,hb,hc⟩:=h j u hu
 exact ⟨b,o,rfl,Nat.lt_of_lt_of_le hb ho.size,(ho.cell (p:=⟨b,o + j,none⟩) hb (hn ⟨b,o,none⟩ rfl)).trans hc⟩
theorem Sl.below {w w' : World} {A : Option Addr} {xs : List Value} (h : Sl w A xs) (ho : Below w.heap.size w w') : Sl w' A xs:=by
 intro j u hu
 obtain ⟨b,o,rfl,hb,hc⟩:=h j u hu
 exact ⟨b,o,rfl,Nat.lt_of_lt_of_le hb ho.size,(ho.cell (p:=⟨b,o + j,none⟩) hb).trans hc⟩
theorem Sl.drewN {w : World} {A : Option Addr} {xs : List Value} (h : Sl w A xs) (n : Nat) : Sl (w.drewN n) A xs:=h
theorem Sl.of_own {w : World} {base : Nat} {e : TypeId} {n n' c : Nat} {A : Option Addr} {xs : List Value} (h : w.ownsRow base e 1 (.slice A n' c) n xs) : Sl w A xs:=by
 intro j u hu
 have hj : j < xs.length:=(List.getElem?_eq_some_iff.1 hu).1
 have hl:=h.1
 obtain ⟨g,cap,hv,_,hlt⟩:=h.form (by omega)
 injection hv with hA
 subst hA
 refine ⟨g,0,rfl,hlt,?_⟩
 have h1:=h.cells (g:=g) rfl j u hu
 have e : (⟨g,0,none⟩ : Addr).add j = ⟨g,0 + j,none⟩:=by
  unfold Addr.add
  by_cases h0 : j = 0 <;> simp [h0]
 rw [e] at h1
 exact h1
theorem cx {w : World} {base : Nat} {e : TypeId} {n : Nat} {v : Value} {xs : List Value} (h : w.ownsRow base e 1 v n xs) :
  ∃ (A : Option Addr) (c : Nat),v = .slice A n c /\ n <= c /\ c <= maxLen /\ n = xs.length /\ Sl w A xs /\ ∀ a,A = some a -> base <= a.block /\ v.ownBlock = some a.block:=by
 have h0:=h
 obtain ⟨h1,h2⟩:=h
 rcases h2 with ⟨rfl,rfl⟩ | ⟨g,cap,cur,rfl,hb,hh,hc,hm,r⟩
 ·exact ⟨none,0,rfl,Nat.le_refl _,Nat.zero_le _,by omega,Sl.of_own h0,fun a ha => by cases ha⟩
 ·exact ⟨some ⟨g,0,none⟩,cap,rfl,hc,hm,by omega,Sl.of_own h0,fun a ha => by cases ha; exact ⟨hb,rfl⟩⟩
inductive Tl where
 | mk (cls : Int) (cons : Bool) (tag : Int) (body : ByteArray) (kids : List Tl)
mutual
def TlAt (w : World) (S : Nat -> Prop) : Tl -> Array Value -> Prop
 | .mk c k t b ks,cs => ∃ (A : Option Addr) (cap : Nat),cs = #[.int .i64 c,.bool k,.int .i64 t,.string b,.slice A ks.length cap] /\ (ks.length <= cap /\ cap <= maxLen) /\ (Lit.int .i64 c).wf = true /\ (Lit.int .i64 t).wf = true /\ b.size <= maxLen /\ KsAt w S ks A 0
def KsAt (w : World) (S : Nat -> Prop) : List Tl -> Option Addr -> Nat -> Prop
 | [],_,_ => True
 | k :: ks,A,j => (∃ (b o : Nat) (c0 c1 c2 c3 c4 : Value),A = some ⟨b,o,none⟩ /\ (S b /\ b < w.heap.size) /\ w.cell? ⟨b,o + j * 5,none⟩ = some c0 /\ w.cell? ⟨b,o + j * 5 + 1,none⟩ = some c1 /\ w.cell? ⟨b,o + j * 5 + 2,none⟩ = some c2 ∧
   w.cell? ⟨b,o + j * 5 + 3,none⟩ = some c3 /\ w.cell? ⟨b,o + j * 5 + 4,none⟩ = some c4 /\ TlAt w S k #[c0,c1,c2,c3,c4]) /\ KsAt w S ks A (j + 1)
end
mutual
def Tl.rank : Tl -> Nat
 | .mk _ _ _ _ ks => Tl.ranks ks + 1
def Tl.ranks : List Tl -> Nat
 | [] => 0
 | k :: ks => max k.rank (Tl.ranks ks)
end
theorem Tl.rank_mem {k : Tl} : ∀ {ks : List Tl},k ∈ ks -> k.rank <= Tl.ranks ks
 | [],h => by cases h
 | x :: ks,h => by
  rcases List.mem_cons.1 h with rfl | h
  ·simp only [Tl.ranks]; omega
  ·have:=Tl.rank_mem h; simp only [Tl.ranks]; omega
mutual
theorem TlAt.keep {w w' : World} {S T : Nat -> Prop} (hs : w.heap.size <= w'.heap.size) (hk : ∀ b,S b -> b < w.heap.size -> w'.heap[b]? = w.heap[b]?) (hT : ∀ b,S b -> b < w.heap.size -> T b) : ∀ (t : Tl) (cs : Array Value),TlAt w S t cs -> TlAt w' T t cs
 | .mk c k t b ks,cs,h => by
  unfold TlAt at h |-
  obtain ⟨A,cap,h1,h2,h3,h4,h5,h6⟩:=h
  exact ⟨A,cap,h1,h2,h3,h4,h5,KsAt.keep hs hk hT ks A 0 h6⟩
theorem KsAt.keep {w w' : World} {S T : Nat -> Prop} (hs : w.heap.size <= w'.heap.size) (hk : ∀ b,S b -> b < w.heap.size -> w'.heap[b]? = w.heap[b]?) (hT : ∀ b,S b -> b < w.heap.size -> T b) : ∀ (ks : List Tl) (A : Option Addr) (j : Nat),KsAt w S ks A j -> KsAt w' T ks A j
 | [],_,_,_ => by unfold KsAt; trivial
 | k :: ks,A,j,h => by
  unfold KsAt at h |-
  obtain ⟨⟨b,o,c0,c1,c2,c3,c4,hA,hlt,q0,q1,q2,q3,q4,ht⟩,hr⟩:=h
  have hc : ∀ o',w'.cell? ⟨b,o',none⟩ = w.cell? ⟨b,o',none⟩:=fun o' => World.cell?_of_block (a:=⟨b,o',none⟩) (hk b hlt.1 hlt.2)
  exact ⟨⟨b,o,c0,c1,c2,c3,c4,hA,⟨hT b hlt.1 hlt.2,Nat.lt_of_lt_of_le hlt.2 hs⟩,(hc _).trans q0,(hc _).trans q1,(hc _).trans q2,(hc _).trans q3,(hc _).trans q4,TlAt.keep hs hk hT k _ ht⟩,KsAt.keep hs hk hT ks A (j + 1) hr⟩
end
theorem TlAt.below {w w' : World} {S : Nat -> Prop} (hb : Below w.heap.size w w') (t : Tl) (cs : Array Value) (h : TlAt w S t cs) : TlAt w' S t cs :=
 TlAt.keep hb.size (fun b _ hlt => hb.block b hlt) (fun _ h _ => h) t cs h
theorem KsAt.below {w w' : World} {S : Nat -> Prop} (hb : Below w.heap.size w w') (ks : List Tl) (A : Option Addr) (j : Nat) (h : KsAt w S ks A j) : KsAt w' S ks A j :=
 KsAt.keep hb.size (fun b _ hlt => hb.block b hlt) (fun _ h _ => h) ks A j h
theorem KsAt.get {w : World} {S : Nat -> Prop} : ∀ {ks : List Tl} {A : Option Addr} {j : Nat},KsAt w S ks A j -> ∀ (i : Nat) (h : i < ks.length),∃ (b o : Nat) (c0 c1 c2 c3 c4 : Value),A = some ⟨b,o,none⟩ /\ (S b /\ b < w.heap.size) ∧
  w.cell? ⟨b,o + (j + i) * 5,none⟩ = some c0 /\ w.cell? ⟨b,o + (j + i) * 5 + 1,none⟩ = some c1 /\ w.cell? ⟨b,o + (j + i) * 5 + 2,none⟩ = some c2 /\ w.cell? ⟨b,o + (j + i) * 5 + 3,none⟩ = some c3 /\ w.cell? ⟨b,o + (j + i) * 5 + 4,none⟩ = some c4 ∧
  TlAt w S ks[i] #[c0,c1,c2,c3,c4]
 | [],_,_,_,_,h => by simp at h
 | k :: ks,A,j,hk,i,h => by
  unfold KsAt at hk
  obtain ⟨h0,hr⟩:=hk
  cases i with
  | zero => simpa using h0
  | succ i =>
   have:=KsAt.get hr i (by simpa using h)
   rw [show j + 1 + i = j + (i + 1) by omega] at this
   simpa using this
namespace PB
theorem head_fits (a : List UInt8) (h : (head a).2.2 = 0) : 2 <= (head a).1 /\ (head a).1 <= a.length:=by
 unfold head at h |-
 by_cases h0 : a.length = 0
 ·rw [if_pos h0] at h; exact absurd h (by decide)
 rw [if_neg h0] at h |-
 by_cases h1 : byt a 0 % 32 = 31
 ·rw [if_pos h1] at h; exact absurd h (by decide)
 rw [if_neg h1] at h |-
 by_cases h2 : a.length < 2
 ·rw [if_pos h2] at h; exact absurd h (by decide)
 rw [if_neg h2] at h |-
 by_cases h3 : byt a 1 < 128
 ·rw [if_pos h3]; exact ⟨Nat.le_refl _,by simp only; omega⟩
 rw [if_neg h3] at h |-
 by_cases h4 : byt a 1 = 128 \/ 132 < byt a 1
 ·rw [if_pos h4] at h; exact absurd h (by decide)
 rw [if_neg h4] at h |-
 by_cases h5 : a.length < 2 + (byt a 1 - 128)
 ·rw [if_pos h5] at h; exact absurd h (by decide)
 rw [if_neg h5]
 exact ⟨by simp only; omega,by simp only; omega⟩
theorem total_ok (a : List UInt8) (h : (total a).2 = 0) : (head a).2.2 = 0 /\ (total a).1 = (head a).1 + (head a).2.1 /\ (total a).1 <= 8192:=by
 unfold total at h |-
 split at h
 ·exact absurd h (by assumption)
 ·rename_i h0
  split at h
  ·exact absurd h (by decide)
  ·rename_i h1
   rw [if_neg h0,if_neg h1]
   exact ⟨by omega,rfl,by simp only; omega⟩
theorem total_pos (a : List UInt8) (h : (total a).2 = 0) : 2 <= (total a).1:=by
 obtain ⟨h1,h2,_⟩:=total_ok a h
 have:=(head_fits a h1).1
 omega
def good (l : List UInt8) : Bool:=byt l 0 == 48 && ((total l).2 == 0 || (total l).2 == 3)
def whole (l : List UInt8) : Bool:=(total l).2 == 0 && decide ((total l).1 <= l.length)
def cut : Nat -> List UInt8 -> List (List UInt8) × List UInt8 × Bool
 | 0,l => ([],l,false)
 | f + 1,l =>
  if l = [] then ([],[],false) else
  if good l = false then ([],[],true) else
  if whole l = false then ([],l,false) else
  (l.take (total l).1 :: (cut f (l.drop (total l).1)).1,(cut f (l.drop (total l).1)).2)
theorem cut_fuel : ∀ (f g : Nat) (l : List UInt8),l.length <= f -> l.length <= g -> cut f l = cut g l:=by
 intro f
 induction f with
 | zero =>
  intro g l hf hg
  obtain rfl : l = []:=List.eq_nil_of_length_eq_zero (by omega)
  cases g <;> simp [cut]
 | succ f ih =>
  intro g l hf hg
  cases g with
  | zero =>
   obtain rfl : l = []:=List.eq_nil_of_length_eq_zero (by omega)
   simp [cut]
  | succ g =>
   unfold cut
   by_cases h0 : l = []
   ·rw [if_pos h0,if_pos h0]
   rw [if_neg h0,if_neg h0]
   by_cases h1 : good l = false
   ·rw [if_pos h1,if_pos h1]
   rw [if_neg h1,if_neg h1]
   by_cases h2 : whole l = false
   ·rw [if_pos h2,if_pos h2]
   rw [if_neg h2,if_neg h2]
   have ht : (total l).2 = 0:=by unfold whole at h2; simp at h2; exact h2.1
   have hp:=total_pos l ht
   have e:=ih g (l.drop (total l).1) (by rw [List.length_drop]; omega) (by rw [List.length_drop]; omega)
   rw [e]
theorem cut_bad (f : Nat) (l : List UInt8) (h0 : 0 < l.length) (hf : l.length <= f) (hg : good l = false) : cut f l = ([],[],true):=by
 obtain ⟨m,rfl⟩ : ∃ m,f = m + 1:=⟨f - 1,by omega⟩
 unfold cut
 rw [if_neg (by intro e; subst e; simp at h0),if_pos hg]
end PB
namespace PB
def span (l : List UInt8) : Nat:=(head l).1 + (head l).2.1
def kidsOf (f : Option (List UInt8 -> Except Nat Tl)) : Nat -> List UInt8 -> Except Nat (List Tl)
 | 0,_ => .ok []
 | fu + 1,l =>
  if l = [] then .ok [] else
  match f with
  | none => .error 13
  | some g =>
   if (head l).2.2 ≠ 0 \/ l.length < span l then .error 4 else
   match g (l.take (span l)) with
   | .error e => .error e
   | .ok t => match kidsOf (some g) fu (l.drop (span l)) with
    | .error e => .error e
    | .ok ts => .ok (t :: ts)
def valOf (f : Option (List UInt8 -> Except Nat Tl)) (l : List UInt8) : Except Nat Tl :=
 if (head l).2.2 ≠ 0 \/ span l ≠ l.length then .error 4 else
 if byt l 0 / 32 % 2 = 0 then .ok (.mk (byt l 0 / 64 : Nat) false (byt l 0 % 32 : Nat) ⟨(l.drop (head l).1).toArray⟩ []) else
 match kidsOf f l.length (l.drop (head l).1) with
 | .error e => .error e
 | .ok ts => .ok (.mk (byt l 0 / 64 : Nat) true (byt l 0 % 32 : Nat) ByteArray.empty ts)
def val : Nat -> List UInt8 -> Except Nat Tl
 | 0 => valOf none
 | k + 1 => valOf (some (val k))
def sub : Nat -> Option (List UInt8 -> Except Nat Tl)
 | 0 => none
 | k + 1 => some (val k)
theorem val_eq (k : Nat) : val k = valOf (sub k):=by cases k <;> rfl
def pre (a : List Tl) : Except Nat (List Tl) -> Except Nat (List Tl)
 | .error e => .error e
 | .ok ts => .ok (a ++ ts)
theorem pre_nil (r : Except Nat (List Tl)) : pre [] r = r:=by cases r <;> rfl
theorem pre_pre (a b : List Tl) (r : Except Nat (List Tl)) : pre a (pre b r) = pre (a ++ b) r:=by cases r <;> simp [pre]
theorem span_pos (l : List UInt8) (h : (head l).2.2 = 0) : 2 <= span l:=by
 have:=(head_fits l h).1
 unfold span
 omega
theorem kidsOf_fuel (g : Option (List UInt8 -> Except Nat Tl)) : ∀ (f f' : Nat) (l : List UInt8),l.length <= f -> l.length <= f' -> kidsOf g f l = kidsOf g f' l:=by
 intro f
 induction f with
 | zero =>
  intro f' l hf hf'
  obtain rfl : l = []:=List.eq_nil_of_length_eq_zero (by omega)
  cases f' <;> simp [kidsOf]
 | succ f ih =>
  intro f' l hf hf'
  cases f' with
  | zero =>
   obtain rfl : l = []:=List.eq_nil_of_length_eq_zero (by omega)
   simp [kidsOf]
  | succ f' =>
   unfold kidsOf
   by_cases h0 : l = []
   ·rw [if_pos h0,if_pos h0]
   rw [if_neg h0,if_neg h0]
   cases g with
   | none => rfl
   | some g =>
    dsimp only
    by_cases h1 : (head l).2.2 ≠ 0 \/ l.length < span l
    ·rw [if_pos h1,if_pos h1]
    rw [if_neg h1,if_neg h1]
    have hp:=span_pos l (by omega)
    have e:=ih f' (l.drop (span l)) (by rw [List.length_drop]; omega) (by rw [List.length_drop]; omega)
    rw [e]
theorem kidsOf_nil (g : Option (List UInt8 -> Except Nat Tl)) (f : Nat) : kidsOf g f [] = .ok []:=by cases f <;> simp [kidsOf]
theorem kidsOf_deep (f : Nat) (l : List UInt8) (h0 : 0 < l.length) (hf : l.length <= f) : kidsOf none f l = .error 13:=by
 obtain ⟨m,rfl⟩ : ∃ m,f = m + 1:=⟨f - 1,by omega⟩
 unfold kidsOf
 rw [if_neg (by intro e; subst e; simp at h0)]
theorem kidsOf_form (g : List UInt8 -> Except Nat Tl) (f : Nat) (l : List UInt8) (h0 : 0 < l.length) (hf : l.length <= f) (hb : (head l).2.2 ≠ 0 \/ l.length < span l) : kidsOf (some g) f l = .error 4:=by
 obtain ⟨m,rfl⟩ : ∃ m,f = m + 1:=⟨f - 1,by omega⟩
 unfold kidsOf
 rw [if_neg (by intro e; subst e; simp at h0)]
 dsimp only
 rw [if_pos hb]
theorem kidsOf_err (g : List UInt8 -> Except Nat Tl) (f : Nat) (l : List UInt8) (e : Nat) (h0 : 0 < l.length) (hf : l.length <= f) (hb : ¬ ((head l).2.2 ≠ 0 \/ l.length < span l)) (hg : g (l.take (span l)) = .error e) : kidsOf (some g) f l = .error e:=by
 obtain ⟨m,rfl⟩ : ∃ m,f = m + 1:=⟨f - 1,by omega⟩
 unfold kidsOf
 rw [if_neg (by intro e; subst e; simp at h0)]
 dsimp only
 rw [if_neg hb,hg]
theorem kidsOf_next (g : List UInt8 -> Except Nat Tl) (f : Nat) (l : List UInt8) (t : Tl) (h0 : 0 < l.length) (hf : l.length <= f) (hb : ¬ ((head l).2.2 ≠ 0 \/ l.length < span l)) (hg : g (l.take (span l)) = .ok t) :
  kidsOf (some g) f l = pre [t] (kidsOf (some g) f (l.drop (span l))):=by
 obtain ⟨m,rfl⟩ : ∃ m,f = m + 1:=⟨f - 1,by omega⟩
 have hp:=span_pos l (by omega)
 have e:=kidsOf_fuel (some g) (m + 1) m (l.drop (span l)) (by rw [List.length_drop]; omega) (by rw [List.length_drop]; omega)
 rw [e]
 conv => lhs; unfold kidsOf
 rw [if_neg (by intro e; subst e; simp at h0)]
 dsimp only
 rw [if_neg hb,hg]
 dsimp only
 cases kidsOf (some g) m (l.drop (span l)) <;> rfl
end PB
def Throws (er : Nat) (e : Ending) : Prop:=e = .panicked [{ v:=.iface 106 (.int .i64 er),recovered:=false }]
theorem whole_no (s : ByteArray) (w : World) (hs : s.size <= 1000000) (h : (PB.head s.data.toList).2.2 ≠ 0 \/ s.size < PB.span s.data.toList) :
  Calls Tryz.prog 93 #[.string s] w fun e w' => Throws 4 e /\ ∃ n,w' = w.drewN n:=by
 have hl:=PB.head_le s.data.toList
 have hh:=dL s w (by unfold maxLen; omega)
 unfold PB.span at h
 generalize PB.head s.data.toList = p at hl hh h
 obtain ⟨a,n,er⟩:=p
 dsimp only at hl hh h
 obtain ⟨hl1,hl2⟩:=hl
 have HH:=aa hh
 clear hh
 by_cases he : er = 0
 ·subst he
  have h2 : decide ((s.size : Int) - a < n) = true:=by simp; omega
  go_enter Tryz.func93,Tryz.ntmps93
  go_wp2_with (go_at_call 92; refine HH.out.mono ?_; rintro e w' ⟨rfl,nq,rfl⟩)
  exact ⟨rfl,rfl,_,rfl⟩
 ·have h1 : ((er : Int) != 0) = true:=by simp; omega
  clear he h
  go_enter Tryz.func93,Tryz.ntmps93
  go_wp2_with (go_at_call 92; refine HH.out.mono ?_; rintro e w' ⟨rfl,nq,rfl⟩)
  exact ⟨rfl,rfl,_,rfl⟩
theorem whole_yes (s : ByteArray) (w : World) (hs : s.size <= 1000000) (h : ¬ ((PB.head s.data.toList).2.2 ≠ 0 \/ s.size < PB.span s.data.toList)) :
  Calls Tryz.prog 93 #[.string s] w fun e w' => e = .returned (.int .i64 (PB.span s.data.toList)) /\ ∃ n,w' = w.drewN n:=by
 have hl:=PB.head_le s.data.toList
 have hh:=dL s w (by unfold maxLen; omega)
 unfold PB.span at h |-
 generalize PB.head s.data.toList = p at hl hh h
 obtain ⟨a,n,er⟩:=p
 dsimp only at hl hh h |-
 obtain ⟨hl1,hl2⟩:=hl
 have HH:=aa hh
 clear hh
 obtain rfl : er = 0:=by omega
 have h2 : decide ((s.size : Int) - a < n) = false:=by simp; omega
 have h3 : a + n <= s.size:=by omega
 clear h
 go_enter Tryz.func93,Tryz.ntmps93
 go_wp2_with (go_at_call 92; refine HH.out.mono ?_; rintro e w' ⟨rfl,nq,rfl⟩)
 go_ret
 exact ⟨by go_num,_,rfl⟩
theorem i64_or_byte (n c : Int) (h0 : -36028797018963968 <= n) (h1 : n < 36028797018963968) (h2 : 0 <= c) (h3 : c <= 255) : bits BinOp.or IntKind.i64 (n * 256) c = n * 256 + c:=by
 obtain ⟨b,rfl⟩:=Int.eq_ofNat_of_zero_le h2
 have e1 : (BitVec.ofInt 64 (n * 256)).toNat = ((n % 72057594037927936).toNat) * 256:=by
  rw [BitVec.toNat_ofInt]
  omega
 have e2 : (BitVec.ofInt 64 (b : Int)).toNat = b:=by
  rw [BitVec.ofInt_natCast,BitVec.toNat_ofNat]; exact Nat.mod_eq_of_lt (by omega)
 show IntKind.i64.wrap ((BitVec.ofInt 64 (n * 256) ||| BitVec.ofInt 64 (b : Int)).toNat : Int) = _
 rw [BitVec.toNat_or,e1,e2,nat_or_256 _ b (by omega),IntKind.wrap_i64]
 omega
namespace PB
def sgn (l : List UInt8) : Int:=l.tail.foldl (fun n x => n * 256 + (x.toNat : Int)) (if byt l 0 < 128 then (byt l 0 : Int) else (byt l 0 : Int) - 256)
theorem sgn_snoc (l : List UInt8) (c : UInt8) (h : l ≠ []) : sgn (l ++ [c]) = sgn l * 256 + (c.toNat : Int):=by
 cases l with
 | nil => exact absurd rfl h
 | cons a r => simp [sgn,byt]
def half (k : Nat) : Int:=128 * 256 ^ k
theorem half_succ (k : Nat) : half (k + 1) = half k * 256:=by unfold half; rw [Int.pow_succ]; omega
theorem sgn_bound (n : Nat) : ∀ (l : List UInt8),l.length = n + 1 -> - half n <= sgn l /\ sgn l < half n:=by
 induction n with
 | zero =>
  intro l hl
  match l,hl with
  | [a],_ =>
   have:=a.toNat_lt
   unfold sgn half byt
   simp
   split <;> omega
 | succ n ih =>
  intro l hl
  have hne : l ≠ []:=by intro e; simp [e] at hl
  have e:=List.dropLast_concat_getLast hne
  have hd : l.dropLast ≠ []:=by intro e2; have:=congrArg List.length e2; simp [hl] at this
  have h1:=ih l.dropLast (by simp [hl])
  rw [<- e,sgn_snoc _ _ hd,half_succ]
  have:=(l.getLast hne).toNat_lt
  omega
def isNum (cons : Bool) (l : List UInt8) : Bool :=
 !cons && decide (1 <= l.length) && decide (l.length <= 8) && !(decide (1 < l.length) && (byt l 0 == 0 && decide (byt l 1 < 128) || byt l 0 == 255 && decide (128 <= byt l 1)))
end PB
mutual
def Tl.weigh : Tl -> Nat -> Nat -> Nat
 | .mk _ _ _ b ks,m,d => if 60 < d then 30001 else Tl.weighs ks (m + 2 + min b.size 30001) d
def Tl.weighs : List Tl -> Nat -> Nat -> Nat
 | [],m,_ => m
 | k :: ks,m,d => if m <= 30000 then Tl.weighs ks (Tl.weigh k m (d + 1)) d else m
end
def fH (q : Int) (w : World) (e : Ending) (w' : World) : Prop:=e = .returned (.int .i64 q) /\ Below w.heap.size w w'
theorem dP {q q' : Int} {w w' : World} (h : q = q') (hb : Below w.heap.size w w') : fH q w (.returned (.int .i64 q')) w':=by
 subst h
 exact ⟨rfl,hb⟩
def TellsN (q : Int) (er : Int) (w : World) (e : Ending) (w' : World) : Prop:=e = .returned (.tuple #[.int .i64 q,.int .i64 er]) /\ Below w.heap.size w w'
theorem number_no (c g : Int) (k : Bool) (b : ByteArray) (A : Option Addr) (n cap : Nat) (w : World) (hb : b.size <= maxLen) (h : PB.isNum k b.data.toList = false) :
  Calls Tryz.prog 68 #[.agg #[.int .i64 c,.bool k,.int .i64 g,.string b,.slice A n cap]] w (TellsN 0 4 w):=by
 unfold maxLen at hb
 unfold PB.isNum at h
 rw [ax] at h
 have t0:=dp b 0
 have t1:=dp b 1
 cases k with
 | true =>
  go_enter Tryz.func68,Tryz.ntmps68
  go_wp2_with fail
  go_ret2
  exact ⟨rfl,(Below.refl _ _).alloc (Nat.le_refl _) _⟩
 | false =>
  by_cases h1 : b.size < 1
  ·have q1 : decide ((b.size : Int) < 1) = true:=by simp; omega
   clear h t0 t1
   go_enter Tryz.func68,Tryz.ntmps68
   go_wp2_with fail
   go_ret2
   exact ⟨rfl,(Below.refl _ _).alloc (Nat.le_refl _) _⟩
  have q1 : decide ((b.size : Int) < 1) = false:=by simp; omega
  by_cases h8 : 8 < b.size
  ·have q2 : decide ((8 : Int) < b.size) = true:=by simp; omega
   clear h t0 t1
   go_enter Tryz.func68,Tryz.ntmps68
   go_wp2_with fail
   go_ret2
   exact ⟨rfl,(Below.refl _ _).alloc (Nat.le_refl _) _⟩
  have q2 : decide ((8 : Int) < b.size) = false:=by simp; omega
  have hm : 1 < b.size /\ (bt b 0 = 0 /\ bt b 1 < 128 \/ bt b 0 = 255 /\ 128 <= bt b 1):=by
   simp [show 1 <= b.size by omega,show b.size <= 8 by omega] at h
   omega
  clear h t0 t1
  obtain ⟨hm1,hm2⟩:=hm
  have q3 : decide ((1 : Int) < b.size) = true:=by simp; omega
  have hg0:=get_bt b 0 (by omega)
  have hg1:=get_bt b 1 (by omega)
  have h0 : 0 < b.size:=by omega
  rcases hm2 with ⟨h2,h3⟩ | ⟨h2,h3⟩
  ·have q4 : (bt b 0 == 0) = true:=by simp [h2]
   clear h2
   go_enter Tryz.func68,Tryz.ntmps68
   go_wp2_with fail
   go_ret2
   exact ⟨rfl,(Below.refl _ _).alloc (Nat.le_refl _) _⟩
  ·have q4 : (bt b 0 == 0) = false:=by simp [h2]
   have q5 : (bt b 0 == 255) = true:=by simp [h2]
   clear h2
   go_enter Tryz.func68,Tryz.ntmps68
   go_wp2_with fail
   go_ret2
   exact ⟨rfl,(Below.refl _ _).alloc (Nat.le_refl _) _⟩
theorem half_small (k : Nat) (h : k <= 6) : PB.half k <= 36028797018963968:=by
 have : k = 0 \/ k = 1 \/ k = 2 \/ k = 3 \/ k = 4 \/ k = 5 \/ k = 6:=by omega
 rcases this with rfl | rfl | rfl | rfl | rfl | rfl | rfl <;> (unfold PB.half; decide)
theorem sgn_small (b : ByteArray) (j : Nat) (h1 : 1 <= j) (h : j < b.size) (h8 : b.size <= 8) : -36028797018963968 <= PB.sgn (b.data.toList.take j) /\ PB.sgn (b.data.toList.take j) < 36028797018963968:=by
 have hb:=PB.sgn_bound (j - 1) (b.data.toList.take j) (by rw [List.length_take,ax]; omega)
 have hh:=half_small (j - 1) (by omega)
 omega
theorem take_at (b : ByteArray) (j : Nat) (h : j < b.size) : b.data.toList.take (j + 1) = b.data.toList.take j ++ [b.data.toList.getD j 0]:=by
 rw [List.take_succ_eq_append_getElem (by rw [ax]; exact h),List.getD_eq_getElem?_getD,List.getElem?_eq_getElem (by rw [ax]; exact h)]
 rfl
theorem sgn_next (b : ByteArray) (j : Nat) (h1 : 1 <= j) (h : j < b.size) : PB.sgn (b.data.toList.take (j + 1)) = PB.sgn (b.data.toList.take j) * 256 + bt b j:=by
 have hne : b.data.toList.take j ≠ []:=by
  intro e
  have:=congrArg List.length e
  rw [List.length_take,ax,List.length_nil] at this
  omega
 rw [take_at b j h,PB.sgn_snoc _ _ hne,dp]
 rfl
theorem start_i8 (b : ByteArray) (h : 0 < b.size) : wrap64 (IntKind.i8.wrap (bt b 0)) = PB.sgn (b.data.toList.take 1):=by
 have h1:=bt_nonneg b 0
 have h2:=bt_le b 0
 have e : PB.sgn (b.data.toList.take 1) = if bt b 0 < 128 then bt b 0 else bt b 0 - 256:=by
  have hl:=take_at b 0 h
  rw [Nat.zero_add,List.take_zero,List.nil_append] at hl
  rw [hl,dp]
  unfold PB.sgn PB.byt
  simp
  split <;> split <;> first | rfl | omega
 have e2 : IntKind.i8.wrap (bt b 0) = if bt b 0 < 128 then bt b 0 else bt b 0 - 256:=by
  simp [IntKind.wrap,IntKind.bits,IntKind.signed]
  split <;> split <;> omega
 rw [e,e2,IntWalk.wrap64_in _ ⟨by split <;> omega,by split <;> omega⟩]
theorem number_yes (c g : Int) (b : ByteArray) (A : Option Addr) (n cap : Nat) (w : World) (h : PB.isNum false b.data.toList = true) :
  Calls Tryz.prog 68 #[.agg #[.int .i64 c,.bool false,.int .i64 g,.string b,.slice A n cap]] w (TellsN (PB.sgn b.data.toList) 0 w):=by
 unfold PB.isNum at h
 rw [ax] at h
 have t0:=dp b 0
 have t1:=dp b 1
 simp only [Bool.not_false,Bool.true_and,Bool.and_eq_true,decide_eq_true_eq,Bool.not_eq_true'] at h
 obtain ⟨⟨h1,h8⟩,hm⟩:=h
 have hm' : b.size = 1 \/ (1 < b.size /\ ¬ (bt b 0 = 0 /\ bt b 1 < 128) /\ ¬ (bt b 0 = 255 /\ 128 <= bt b 1)):=by
  by_cases hx : b.size = 1
  ·exact Or.inl hx
  ·right
   simp [show 1 < b.size by omega] at hm
   omega
 clear hm t0 t1
 have q1 : decide ((b.size : Int) < 1) = false:=by simp; omega
 have q2 : decide ((8 : Int) < b.size) = false:=by simp; omega
 have hg0:=get_bt b 0 (by omega)
 have h0 : 0 < b.size:=by omega
 have b1:=bt_nonneg b 0
 have b2:=bt_le b 0
 have HI:=aa (start_i8 b h0)
 have hcase : (∃ _ : decide ((1 : Int) < b.size) = false,b.size = 1) \/ (1 < b.size /\ (bt b 0 == 0) = true /\ decide (bt b 1 < 128) = false /\ (bt b 0 == 255) = false) \/ (1 < b.size /\ (bt b 0 == 0) = false /\ (bt b 0 == 255) = true /\ decide (128 <= bt b 1) = false) \/ (1 < b.size /\ (bt b 0 == 0) = false /\ (bt b 0 == 255) = false):=by
  rcases hm' with hs | ⟨hs,hm1,hm2⟩
  ·exact Or.inl ⟨by simp; omega,hs⟩
  ·right
   by_cases hx : bt b 0 = 0
   ·exact Or.inl ⟨hs,by simp [hx],by simp; omega,by simp; omega⟩
   ·by_cases hy : bt b 0 = 255
    ·exact Or.inr (Or.inl ⟨hs,by simp; omega,by simp [hy],by simp; omega⟩)
    ·exact Or.inr (Or.inr ⟨hs,by simp; omega,by simp; omega⟩)
 clear hm'
 have hex : ∃ x : Int,x = bt b 1:=⟨_,rfl⟩
 rcases hcase with ⟨q3,hs⟩ | ⟨hs,q4,q5,q6⟩ | ⟨hs,q4,q5,q6⟩ | ⟨hs,q4,q5⟩
 case' inl => have hs1:=Nat.le_of_eq hs; clear hs
 case' inr.inl => have hg1:=get_bt b 1 hs; have q3 : decide ((1 : Int) < b.size) = true:=by simp; omega
 case' inr.inr.inl => have hg1:=get_bt b 1 hs; have q3 : decide ((1 : Int) < b.size) = true:=by simp; omega
 case' inr.inr.inr => have hg1:=get_bt b 1 hs; have q3 : decide ((1 : Int) < b.size) = true:=by simp; omega
 all_goals
  clear hex
  go_enter Tryz.func68,Tryz.ntmps68
  go_wp2_with fail
  go_loop [5,6] (fun x i => ∃ j : Nat,1 <= j /\ j <= b.size /\ i = .int .i64 j /\ x = .int .i64 (PB.sgn (b.data.toList.take j))) (fun _ i => b.size - (intOf i).toNat)
  case atStart => exact ⟨1,by omega,by omega,rfl,by rw [HI.out]⟩
  case round =>
   obtain ⟨j,hj1,hj,rfl,rfl⟩:=hrel
   by_cases hlt : j < b.size
   ·have hb:=get_bt b j hlt
    have hb1:=bt_nonneg b j
    have hb2:=bt_le b j
    obtain ⟨s1,s2⟩:=sgn_small b j hj1 hlt h8
    have HX:=aa (sgn_next b j hj1 hlt)
    generalize PB.sgn (b.data.toList.take j) = s at s1 s2 HX
    have HY:=aa (i64_or_byte s (bt b j) s1 s2 hb1 hb2)
    go_wp2_with fail
    go_round
    case rel => exact ⟨j + 1,by omega,by omega,by go_num,by rw [HY.out,HX.out]⟩
    case measure => simp [intOf]; omega
   ·have hz : b.data.toList.take j = b.data.toList:=List.take_of_length_le (by rw [ax]; omega)
    rw [hz]
    clear hz
    go_wp2_with fail
    go_ret2
    exact ⟨rfl,(Below.refl _ _).alloc (Nat.le_refl _) _⟩
theorem eU (s : ByteArray) (w : World) (hs : s.size <= maxLen) :
  Calls Tryz.prog 65 #[.string s] w (Tells2 (PB.total s.data.toList).1 (PB.total s.data.toList).2 w):=by
 have hl:=PB.head_le s.data.toList
 have hh:=dL s w hs
 unfold PB.total
 generalize PB.head s.data.toList = p at hl hh
 obtain ⟨a,n,e⟩:=p
 dsimp only at hl hh |-
 obtain ⟨hl1,hl2⟩:=hl
 have HH:=aa hh
 clear hh
 split
 ·rename_i he
  have h1 : ((e : Int) != 0) = true:=by simp; omega
  clear he
  go_enter Tryz.func65,Tryz.ntmps65
  go_wp2_with (go_at_call 92; refine HH.out.mono ?_; rintro e w' ⟨rfl,nq,rfl⟩)
  go_ret2
  exact ⟨rfl,_,rfl⟩
 ·rename_i he
  obtain rfl : e = 0:=by omega
  clear he
  split
  ·have h2 : decide ((8192 : Int) - a < n) = true:=by simp; omega
   go_enter Tryz.func65,Tryz.ntmps65
   go_wp2_with (go_at_call 92; refine HH.out.mono ?_; rintro e w' ⟨rfl,nq,rfl⟩)
   go_ret2
   exact ⟨rfl,_,rfl⟩
  ·have h2 : decide ((8192 : Int) - a < n) = false:=by simp; omega
   go_enter Tryz.func65,Tryz.ntmps65
   go_wp2_with (go_at_call 92; refine HH.out.mono ?_; rintro e w' ⟨rfl,nq,rfl⟩)
   go_ret2
   exact ⟨by go_num,_,rfl⟩
def strLen : Value -> Nat | .string s => s.size | _ => 0
theorem bp (s : ByteArray) (a b : Nat) : (s.extract a b).data.toList = (s.data.toList.drop a).take (b - a):=by
 rw [ByteArray.data_extract,Array.toList_extract,List.extract_eq_take_drop]
theorem aP (a b : ByteArray) : (a ++ b).data.toList = a.data.toList ++ b.data.toList:=by
 rw [ByteArray.data_append,Array.toList_append]
def Holds (w : World) (e : Ending) (w' : World) : Prop:=e = .returned (.bool true) /\ Below w.heap.size w w'
theorem dB {r : ByteArray} {l : List UInt8} (h : r.data.toList = l) : r = ⟨l.toArray⟩:=by
 subst h; rfl
theorem info_u8 : (Tryz.prog.info? 5).map (fun i => (i.zero,i.size,i.bytes)) = some (some (.int .u8 0),1,1):=by kernel_rfl
def u8s (l : List UInt8) : List Value:=l.map fun c => .int .u8 c.toNat
theorem cj (l : List UInt8) : (u8s l).length = l.length:=by simp [u8s]
theorem u8s_app (a b : List UInt8) : u8s (a ++ b) = u8s a ++ u8s b:=by simp [u8s]
theorem add_zero_addr (g j : Nat) : (⟨g,0,none⟩ : Addr).add j = ⟨g,j,none⟩:=by
 unfold Addr.add
 by_cases h0 : j = 0 <;> simp [h0]
theorem own_u8_cell {W : World} {B g n cap : Nat} {L : List UInt8} (h : W.ownsRow B 5 1 (.slice (some ⟨g,0,none⟩) n cap) L.length (u8s L)) (j : Nat) (hj : j < L.length) :
  W.cell? ⟨g,j,none⟩ = some (.int .u8 (PB.byt L j : Nat)):=by
 have h1:=h.cells (g:=g) rfl j (.int .u8 (PB.byt L j : Nat)) (by
  unfold u8s PB.byt
  rw [List.getElem?_map,List.getElem?_eq_getElem hj,List.getD_eq_getElem?_getD,List.getElem?_eq_getElem hj]
  rfl)
 rw [add_zero_addr] at h1
 exact h1
theorem cR {W : World} {B g n cap : Nat} {L : List UInt8} (h : W.ownsRow B 5 1 (.slice (some ⟨g,0,none⟩) n cap) L.length (u8s L)) :
  (convert 90 9 (.slice (some ⟨g,0,none⟩) n cap)).run Tryz.prog W = .ok (.string ⟨L.toArray⟩) W:=by
 have hn : n = L.length:=by
  rcases h.2 with ⟨h0,_⟩ | ⟨g',cap',cur,h0,_⟩
  ·cases h0
  ·injection h0
 have h1:=run_convert_bytes_arg W 90 5 Tryz.underlying90 Tryz.underlying5 g 0 n cap (L.map fun c => (c.toNat : Int)) (by simp [hn]) (fun i hi => by
  rw [Nat.zero_add,own_u8_cell h i (by omega)]
  unfold PB.byt
  rw [List.getD_eq_getElem?_getD,List.getD_eq_getElem?_getD,List.getElem?_map,List.getElem?_eq_getElem (by omega)]
  rfl) 9 Tryz.underlying9
 rw [h1]
 have e : strOfNums (L.map fun c => (c.toNat : Int)) = ⟨L.toArray⟩:=by
  apply dB
  rw [strOfNums_data,List.map_map]
  have : (fun n : Int => UInt8.ofNat n.toNat) ∘ (fun c : UInt8 => (c.toNat : Int)) = id:=by
   funext c
   simp
  rw [this,List.map_id]
 rw [e]
end Go.Proofs.YtbiglfpikfjbpaaGreatDoor

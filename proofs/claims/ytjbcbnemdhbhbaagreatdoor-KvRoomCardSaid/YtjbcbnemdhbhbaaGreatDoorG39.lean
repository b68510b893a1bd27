import Derived.Test.YtjbcbnemdhbhbaaGreatDoorG37
import Derived.Test.YtjbcbnemdhbhbaaGreatDoorG30
namespace Go.Proofs.YtjbcbnemdhbhbaaGreatDoor
open Go.RowKit
set_option maxRecDepth 100000
set_option linter.unusedVariables false
set_option linter.unusedSimpArgs false
def Fr.one (x : Nat × Nat) : List UInt8 := Be.low x.1 8 ++ Be.low x.2 4
def Fr.bytes (next : Nat) (l : List (Nat × Nat)) : List UInt8 := Be.low next 4 ++ (Be.low l.length 2 ++ l.flatMap Fr.one)
theorem Fr.one_len (x : Nat × Nat) : (Fr.one x).length = 12 := by unfold Fr.one; rw [List.length_append, Be.low_len, Be.low_len]
theorem Fr.flat_len : ∀ l : List (Nat × Nat), (l.flatMap Fr.one).length = 12 * l.length
 | [] => rfl
 | x :: l => by rw [List.flatMap_cons, List.length_append, Fr.one_len, Fr.flat_len l, List.length_cons]; omega
theorem Fr.bytes_len (next : Nat) (l : List (Nat × Nat)) : (Fr.bytes next l).length = 6 + 12 * l.length := by
 unfold Fr.bytes
 rw [List.length_append, List.length_append, Be.low_len, Be.low_len, Fr.flat_len]
 omega
theorem str_size {s : ByteArray} {l : List UInt8} (h : s.data.toList = l) : s.size = l.length := by
 rw [← h, Array.length_toList]
 rfl
set_option maxHeartbeats 16000000 in
theorem fencode_any {w : World} {A : Option Addr} {c : Nat} {l : List (Nat × Nat)} (next : Nat) (h : FRow w A l) (hs : Fr.Sorted l) (hk : ∀ x ∈ l, Fr.ok x = true) (hnd : (Fr.pg l).Nodup) (hl : l.length ≤ 40) (hn : next < 512) :
   Calls Tryz.prog 114 #[.int .i64 next, .slice A l.length c] w (fun e w' => (∃ s : ByteArray, e = .returned (.tuple #[.string s, .int .i64 0]) ∧ s.data.toList = Fr.bytes next l) ∧ Below w.heap.size w w') := by
 have HM := Lib.hid (fmay_ok (c := c) next h hs hk hnd hl hn)
 have HR := Lib.hid h
 have HK := Lib.hid hk
 obtain ⟨n, hn9⟩ : ∃ n, n = l.length := ⟨_, rfl⟩
 have HN := Lib.hid hn9
 rw [← hn9] at HM hl ⊢
 have y1 : IntKind.u64.wrap (next : Int) = next := by rw [IntKind.wrap_u64]; omega
 have y2 : IntKind.u64.wrap (n : Int) = n := by rw [IntKind.wrap_u64]; omega
 obtain ⟨s0, hs0⟩ : ∃ s : ByteArray, s = (⟨#[]⟩ : ByteArray) ++ ⟨(Be.low next 4).toArray⟩ := ⟨_, rfl⟩
 obtain ⟨s1, hs1⟩ : ∃ s : ByteArray, s = s0 ++ ⟨(Be.low n 2).toArray⟩ := ⟨_, rfl⟩
 have hd0 : s0.data.toList = Be.low next 4 := by rw [hs0]; simp
 have hd1 : s1.data.toList = Be.low next 4 ++ Be.low n 2 := by rw [hs1]; simp [hd0]
 have HP0 := Lib.hid fun (W : World) => (show Calls Tryz.prog 160 #[.string ⟨#[]⟩, .int .u64 next, .int .i64 4] W (TellsSE s0 0 W) from by rw [hs0]; exact put_ok ⟨#[]⟩ next 4 W (by show 0 ≤ 1000000; omega) (by omega) (by omega) (by omega))
 have HP1 := Lib.hid fun (W : World) => (show Calls Tryz.prog 160 #[.string s0, .int .u64 n, .int .i64 2] W (TellsSE s1 0 W) from by rw [hs1]; exact put_ok s0 n 2 W (by rw [str_size hd0, Be.low_len]; omega) (by omega) (by omega) (by omega))
 have HPUT := Lib.hid fun (s : ByteArray) (m k : Nat) (W : World) (h1 : s.size ≤ 1000000) (h2 : 1 ≤ k) (h3 : k ≤ 8) (h4 : m < 256 ^ k) => put_ok s m k W h1 h2 h3 h4
 have hz1 : s1.size ≤ 1000 := by rw [str_size hd1, List.length_append, Be.low_len, Be.low_len]; omega
 have HD1 := Lib.hid hd1
 clear h hs hk hnd hn hn9 hs0 hs1 hd0 hd1
 go_enter Tryz.func114, Tryz.ntmps114
 go_wp2_with fail
 refine HM.out.mono ?_
 rintro e w1 ⟨rfl, hb1⟩
 have HB1 := Lib.hid hb1
 clear hb1
 go_wp2_with fail
 refine (HP0.out _).mono ?_
 rintro e w2 ⟨rfl, hb2⟩
 have HB2 := Lib.hid (HB1.out.trans (hb2.mono HB1.out.size))
 clear hb2
 go_wp2_with fail
 refine (HP1.out _).mono ?_
 rintro e w3 ⟨rfl, hb3⟩
 have HB3 := Lib.hid (HB2.out.trans (hb3.mono HB2.out.size))
 clear hb3
 go_wp2_with fail
 go_loopw [6, 30] (fun s i wr => ∃ (sj : ByteArray) (j : Nat), s = .string sj ∧ i = .int .i64 j ∧ j ≤ n ∧ sj.size ≤ 1000 ∧ Hid (sj.data.toList = Be.low next 4 ++ Be.low n 2 ++ (l.take j).flatMap Fr.one) ∧ Hid (Below w.heap.size w wr)) (fun _ i _ => n - (intOf i).toNat)
 case atStart => exact ⟨s1, 0, rfl, rfl, Nat.zero_le _, hz1, Lib.hid (by simpa using HD1.out), HB3⟩
 case round =>
   obtain ⟨sj, j, rfl, rfl, hj, hsz, hI, hB⟩ := hrel
   by_cases hlt : j < n
   · have z5 : decide ((j : Int) < (n : Int)) = true := decide_eq_true (by omega)
     have hlj : j < l.length := by have := HN.out; omega
     obtain ⟨b, o, rfl, hb, hx1, hx2⟩ := (HR.out.below hB.out).at j hlj
     obtain ⟨x, hx⟩ : ∃ x, x = l[j] := ⟨_, rfl⟩
     rw [← hx] at hx1 hx2
     have hxo := HK.out x (by rw [hx]; exact List.getElem_mem hlj)
     have hxb : x.1 ≤ 1099511627776 ∧ x.2 < 512 := by unfold Fr.ok at hxo; simp at hxo; omega
     have htk : l.take (j + 1) = l.take j ++ [x] := by rw [hx]; exact List.take_succ_eq_append_getElem hlj
     obtain ⟨x1, hx19⟩ : ∃ x1, x1 = x.1 := ⟨_, rfl⟩
     obtain ⟨x2, hx29⟩ : ∃ x2, x2 = x.2 := ⟨_, rfl⟩
     rw [← hx19] at hx1 hxb
     rw [← hx29] at hx2 hxb
     have y3 : IntKind.u64.wrap (x1 : Int) = x1 := by rw [IntKind.wrap_u64]; omega
     have y4 : IntKind.u64.wrap (x2 : Int) = x2 := by rw [IntKind.wrap_u64]; omega
     obtain ⟨sa, hsa⟩ : ∃ s : ByteArray, s = sj ++ ⟨(Be.low x1 8).toArray⟩ := ⟨_, rfl⟩
     obtain ⟨sb, hsb⟩ : ∃ s : ByteArray, s = sa ++ ⟨(Be.low x2 4).toArray⟩ := ⟨_, rfl⟩
     have hda : sa.data.toList = sj.data.toList ++ Be.low x1 8 := by rw [hsa]; simp
     have hdb : sb.data.toList = sj.data.toList ++ (Be.low x1 8 ++ Be.low x2 4) := by rw [hsb]; simp [hda]
     have hdb2 : sb.data.toList = Be.low next 4 ++ Be.low n 2 ++ (l.take (j + 1)).flatMap Fr.one := by
       rw [hdb, hI.out, htk, List.flatMap_append, List.flatMap_cons, List.flatMap_nil, List.append_nil, List.append_assoc]
       unfold Fr.one
       rw [hx19, hx29]
     have hpow8 : (1099511627776 : Nat) < 256 ^ 8 := by decide
     have hpow4 : (512 : Nat) < 256 ^ 4 := by decide
     have hsza : sa.size = sj.size + 8 := by rw [str_size hda, List.length_append, Be.low_len, Array.length_toList]; rfl
     have hszb : sb.size ≤ 1000 := by
       rw [str_size hdb2, List.length_append, List.length_append, Be.low_len, Be.low_len, Fr.flat_len, List.length_take]
       omega
     have HPA := Lib.hid fun (W : World) => (show Calls Tryz.prog 160 #[.string sj, .int .u64 x1, .int .i64 8] W (TellsSE sa 0 W) from by rw [hsa]; exact HPUT.out sj x1 8 W (by omega) (by omega) (by omega) (by omega))
     have HPB := Lib.hid fun (W : World) => (show Calls Tryz.prog 160 #[.string sa, .int .u64 x2, .int .i64 4] W (TellsSE sb 0 W) from by rw [hsb]; exact HPUT.out sa x2 4 W (by omega) (by omega) (by omega) (by omega))
     have HI2 := Lib.hid hdb2
     have HX := Lib.hid fun (W : World) (hW : Below (wr.alloc (.cells #[.int .i64 x1, .int .i64 x2] 62)).heap.size (wr.alloc (.cells #[.int .i64 x1, .int .i64 x2] 62)) W) => bk_below (Bk.new wr 62 #[.int .i64 x1, .int .i64 x2]) hW
     clear hI hsz hx hxo htk hx19 hx29 hsa hsb hda hdb hdb2 hpow8 hpow4 hsza
     go_wp2_with fail
     refine (HPA.out _).mono ?_
     rintro e w5 ⟨rfl, hb5⟩
     have hbk := HX.out w5 hb5
     have v1 := hbk.cell 1
     have lv := hbk.lt
     have HB5 := Lib.hid ((hB.out.alloc hB.out.size (.cells #[.int .i64 x1, .int .i64 x2] 62)).trans (hb5.mono (by have := hB.out.size; simp; omega)))
     clear hbk hb5
     go_wp2_with fail
     refine (HPB.out _).mono ?_
     rintro e w6 ⟨rfl, hb6⟩
     have HB6 := Lib.hid (HB5.out.trans (hb6.mono HB5.out.size))
     clear hb6
     go_wp2_with fail
     go_roundw
     case rel => first | exact ⟨sb, j + 1, rfl, by go_num, by omega, hszb, HI2, HB6⟩ | ((repeat apply Exists.intro); exact ⟨⟨sb, j + 1, rfl, by go_num, by omega, hszb, HI2, HB6⟩, rfl⟩)
     case measure => simp [intOf]; omega
   · have z5 : decide ((j : Int) < (n : Int)) = false := decide_eq_false (by omega)
     have hje : j = l.length := by have := HN.out; omega
     have HE := Lib.hid (show sj.data.toList = Fr.bytes next l by
       rw [hI.out, hje, List.take_length, HN.out, List.append_assoc]
       rfl)
     clear hI hje
     go_wp2_with fail
     go_ret2
     exact ⟨⟨sj, rfl, HE.out⟩, hB.out⟩
end Go.Proofs.YtjbcbnemdhbhbaaGreatDoor
namespace Go.Proofs.YtjbcbnemdhbhbaaGreatDoor
set_option linter.unusedVariables false
set_option linter.unusedSimpArgs false
def layPart (l : List (Nat × Nat)) (m i : Nat) : List (Nat × Nat) := (l.drop (l.length * i / m)).take (l.length * (i + 1) / m - l.length * i / m)
def layPage (ch : List Nat) (l : List (Nat × Nat)) (i : Nat) : Pgg := ⟨4, ⟨(Fr.bytes (ch.getD (i + 1) 0) (layPart l ch.length i)).toArray⟩⟩
def layD (d : Book) (ch : List Nat) (l : List (Nat × Nat)) : Nat → Book
 | 0 => d
 | i + 1 => Tr.upd (layD d ch l i) (ch.getD i 0) (some (layPage ch l i))
theorem cut_le (n i m : Nat) (hm : 0 < m) : n * i / m ≤ n * (i + 1) / m := Nat.div_le_div_right (Nat.mul_le_mul_left _ (Nat.le_succ i))
theorem cut_end (n i m : Nat) (hm : 0 < m) (hi : i < m) : n * (i + 1) / m ≤ n := by
 refine Nat.div_le_of_le_mul ?_
 rw [Nat.mul_comm m n]
 exact Nat.mul_le_mul_left _ hi
theorem cut_few (n i m : Nat) (hm : 0 < m) (h : n ≤ 40 * m) : n * (i + 1) / m ≤ n * i / m + 40 := by
 have e : n * i / m + 40 = (n * i + 40 * m) / m := by rw [Nat.add_mul_div_right _ _ hm]
 rw [e]
 refine Nat.div_le_div_right ?_
 rw [Nat.mul_succ]
 omega
theorem layPart_len (l : List (Nat × Nat)) (m i : Nat) (hm : 0 < m) (hi : i < m) : (layPart l m i).length = l.length * (i + 1) / m - l.length * i / m := by
 unfold layPart
 rw [List.length_take, List.length_drop]
 have := cut_end l.length i m hm hi
 omega
theorem layPart_sub (l : List (Nat × Nat)) (m i : Nat) : (layPart l m i).Sublist l := (List.take_sublist _ _).trans (List.drop_sublist _ _)
theorem layD_other (d : Book) (ch : List Nat) (l : List (Nat × Nat)) : ∀ (i n : Nat), n ∉ ch.take i → i ≤ ch.length → layD d ch l i n = d n
 | 0, n, _, _ => rfl
 | i + 1, n, h, hi => by
   have e1 : ch.take (i + 1) = ch.take i ++ [ch[i]] := List.take_succ_eq_append_getElem hi
   rw [e1, List.mem_append, not_or, List.mem_singleton] at h
   have e2 : ch.getD i 0 = ch[i]'(by omega) := by rw [List.getD_eq_getElem?_getD, List.getElem?_eq_getElem (by omega)]; rfl
   show Tr.upd (layD d ch l i) (ch.getD i 0) _ n = _
   rw [e2, Tr.upd_ne _ _ h.2]
   exact layD_other d ch l i n h.1 (by omega)
theorem layD_at (d : Book) (ch : List Nat) (l : List (Nat × Nat)) (hn : ch.Nodup) : ∀ (i j : Nat) (hj : j < i) (hi : i ≤ ch.length), layD d ch l i (ch[j]'(by omega)) = some (layPage ch l j)
 | i + 1, j, hj, hi => by
   have e2 : ch.getD i 0 = ch[i]'(by omega) := by rw [List.getD_eq_getElem?_getD, List.getElem?_eq_getElem (by omega)]; rfl
   show Tr.upd (layD d ch l i) (ch.getD i 0) _ _ = _
   rw [e2]
   by_cases e : j = i
   · subst e
     rw [Tr.upd_same]
   · have hne : ch[j]'(by omega) ≠ ch[i]'(by omega) := (List.pairwise_iff_getElem.1 hn) j i (by omega) (by omega) (by omega)
     rw [Tr.upd_ne _ _ hne]
     exact layD_at d ch l hn i j (by omega) (by omega)
theorem pieces_mono {a b : Nat} (h : a ≤ b) : Fr.pieces a ≤ Fr.pieces b := by
 unfold Fr.pieces
 split
 · omega
 · split
   · omega
   · have := Nat.div_le_div_right (c := 40) (show a - 1 ≤ b - 1 by omega)
     omega
theorem pieces_enough {n m : Nat} (h : Fr.pieces n ≤ m) : n ≤ 40 * m := by
 unfold Fr.pieces at h
 split at h
 · omega
 · omega
theorem pieces_13 {n : Nat} (h : n ≤ 512) : Fr.pieces n ≤ 13 := by
 unfold Fr.pieces
 split <;> omega
namespace Tx
theorem Ok.rehand {x : Tx} {limit : Nat} {D : Book} {U pc h h' : List Nat} (k : x.Ok limit D U pc h) (hp : h.Perm h') : x.Ok limit D U pc h' := by
 obtain ⟨dk, h1, h2⟩ := k.perm
 refine ⟨⟨dk, h1, List.Perm.trans ?_ h2⟩, k.one, k.le, k.lim, k.sorted, k.freed, k.sub, k.disk, k.txns⟩
 exact List.Perm.append_left _ (List.Perm.append_left _ (List.Perm.append_left _ (List.Perm.append_left _ (List.Perm.append_left _ hp.symm))))
theorem Takes.book {x x' : Tx} {limit upto n : Nat} (t : Takes limit upto x n x') (D : Book) (U : List Nat) : x'.book D U = x.book D U := by
 obtain ⟨h1, h2⟩ := t.dirty
 unfold Tx.book
 rw [h1, h2]
end Tx
end Go.Proofs.YtjbcbnemdhbhbaaGreatDoor

import Derived.Test.YtjbcbnemdhbhbaaGreatDoorG2
import Derived.Test.YtjbcbnemdhbhbaaGreatDoorG1
namespace Go.Proofs.YtjbcbnemdhbhbaaGreatDoor
open Go.RowKit
set_option maxRecDepth 100000
set_option linter.unusedVariables false
set_option linter.unusedSimpArgs false
theorem wrap_u64 (n : Nat) (h : n < 18446744073709551616) : IntKind.u64.wrap (n : Int) = (n : Int) := IntWalk.u64_in _ (by omega)
theorem wrap_i64 (n : Nat) (h : n < 9223372036854775808) : IntKind.i64.wrap (n : Int) = (n : Int) := IntWalk.i64_in _ (by omega)
set_option maxHeartbeats 4000000 in
theorem text_ok (s t : ByteArray) (w : World) (hs : s.size ≤ 1000000) (ht : t.size ≤ 65535) :
   Calls Tryz.prog 288 #[.string s, .string t] w (TellsSE (s ++ ⟨(Be.low t.size 2).toArray⟩ ++ t) 0 w) := by
 have H := Lib.hid fun (W : World) => put_ok s t.size 2 W hs (by omega) (by omega) (by omega)
 have k1 : decide ((65535 : Int) < (t.size : Int)) = false := decide_eq_false (by omega)
 have hw := wrap_u64 t.size (by omega)
 obtain ⟨r, hr⟩ : ∃ r, r = s ++ ⟨(Be.low t.size 2).toArray⟩ := ⟨_, rfl⟩
 rw [← hr] at H ⊢
 have hrs : r.size ≤ 1000002 := by
   have h2 := size_list (Be.low t.size 2)
   rw [Be.low_len] at h2
   rw [hr, ByteArray.size_append, h2]; omega
 clear hr
 go_enter Tryz.func288, Tryz.ntmps288
 go_wp2_with (first
   | (go_at_call 160; go_must (refine (H.out _).mono ?_); rintro e w1 ⟨rfl, hb1⟩)
   | fail)
 go_ret2
 exact ⟨rfl, hb1⟩
set_option maxHeartbeats 4000000 in
theorem taketext_ok (s : ByteArray) (p n : Nat) (w : World) (hs : s.size ≤ 1000000) (hp : p + 2 + n ≤ s.size) (hn : numAt s p 2 = n) :
   Calls Tryz.prog 280 #[.string s, .int .i64 p] w (fun e w' => e = .returned (.tuple #[.string (s.extract (p + 2) (p + 2 + n)), .int .i64 ((p : Int) + 2 + n), .int .i64 0]) ∧ Below w.heap.size w w') := by
 have H := Lib.hid fun (W : World) => (show Calls Tryz.prog 120 #[.string s, .int .i64 p, .int .i64 2] W (TellsUE n W) by rw [← hn]; exact take_ok s p 2 W hs (by omega) (by omega) (by omega))
 have hw := wrap_u64 (s.size - p - 2) (by omega)
 have he : ((s.size - p - 2 : Nat) : Int) = (s.size : Int) - (p : Int) - 2 := by omega
 rw [he] at hw
 have k1 : decide ((s.size : Int) - (p : Int) - 2 < (n : Int)) = false := decide_eq_false (by omega)
 have hw2 := wrap_i64 n (by omega)
 clear hn he
 go_enter Tryz.func280, Tryz.ntmps280
 go_wp2_with (first
   | (go_at_call 120; go_must (refine (H.out _).mono ?_); rintro e w1 ⟨rfl, hb1⟩)
   | fail)
 go_ret3
 exact ⟨rfl, hb1⟩
def Small (l : List Ce) : Prop := l.length ≤ 10000 ∧ ∀ c ∈ l, c.key.size ≤ 1000 ∧ c.val.size ≤ 1000
theorem size_small (leaf : Bool) {c : Ce} (h : c.key.size ≤ 1000 ∧ c.val.size ≤ 1000) : Nd.size leaf c ≤ 2007 := by
 unfold Nd.size; repeat' split
 all_goals omega
theorem sum_small (leaf : Bool) {l : List Ce} (h : ∀ c ∈ l, c.key.size ≤ 1000 ∧ c.val.size ≤ 1000) : (l.map (Nd.size leaf)).sum ≤ 2007 * l.length := by
 induction l with
 | nil => simp
 | cons c l ih =>
   have h1 := size_small leaf (h c (by simp))
   have h2 := ih fun x hx => h x (by simp [hx])
   rw [List.map_cons, List.sum_cons, List.length_cons]
   omega
set_option maxHeartbeats 4000000 in
theorem nsum_any (leaf : Bool) (r : Rw) (l : List Ce) (S : Nat → Prop) (w : World) (h : CRow w S r l) (hl : Small l) :
   Calls Tryz.prog 254 #[.bool leaf, .slice r.A r.n r.c] w (TellsI (Nd.sum leaf l) w) := by
 obtain ⟨A, n, cap⟩ := r
 have hr := h
 obtain ⟨h1, h2, h3, -⟩ := hr
 simp only at h1 h2 h3 ⊢
 subst h1
 obtain ⟨N, hN⟩ : ∃ N : Int, N = (Nd.sum leaf l : Nat) := ⟨_, rfl⟩
 rw [← hN]
 have HN := Lib.hid hN
 have HR := Lib.hid h
 have HL := Lib.hid hl
 have hll := hl.1
 have hcm : cap ≤ 9223372036854775807 := by unfold maxLen at h3; omega
 clear h hN h3 hl
 go_enter Tryz.func254, Tryz.ntmps254
 go_wp2_with fail
 go_loopw [5, 10] (fun u i wr => ∃ (j y : Nat), i = .int .i64 j ∧ u = .int .i64 y ∧ j ≤ l.length ∧ y ≤ 2 + 2007 * j ∧ Hid (y = 2 + ((l.take j).map (Nd.size leaf)).sum) ∧ Below w.heap.size w wr) (fun _ i _ => l.length - (intOf i).toNat)
 case atStart => exact ⟨0, 2, rfl, rfl, Nat.zero_le _, by omega, Lib.hid (by simp), Below.refl _ _⟩
 case round =>
   obtain ⟨j, y, rfl, rfl, hj, hy, HY, hbw⟩ := hrel
   have HBW := Lib.hid hbw
   by_cases hlt : j < l.length
   · have z1 : decide ((j : Int) < (l.length : Int)) = true := decide_eq_true (by omega)
     obtain ⟨b, o, hA, hS, q0, q1, q2, q3, q4⟩ := (HR.out.below hbw).at j hlt
     simp only at hA
     subst hA
     have hbl := hS.2
     have hm := HL.out.2 _ (List.getElem_mem hlt)
     have hsz := size_small leaf hm
     have HC := Lib.hid fun (W : World) => size_any leaf l[j] W (by omega) (by omega)
     have HT := Lib.hid (show ((l.take (j + 1)).map (Nd.size leaf)).sum = ((l.take j).map (Nd.size leaf)).sum + Nd.size leaf l[j] by rw [List.take_succ_eq_append_getElem hlt, List.map_append, List.sum_append]; simp)
     obtain ⟨z, hz⟩ : ∃ z, z = Nd.size leaf l[j] := ⟨_, rfl⟩
     rw [← hz] at HC HT hsz
     obtain ⟨x, hx⟩ : ∃ x, x = l[j] := ⟨_, rfl⟩
     rw [← hx] at HC q0 q1 q2 q3 q4
     clear hS hm hz hx hbw
     go_wp2_with (first
       | (go_at_call 255; go_must (refine (HC.out _).mono ?_); rintro e w2 ⟨rfl, hb2⟩; have HB2 := Lib.hid ((HBW.out.alloc HBW.out.size (.cells #[.string x.key, .string x.val, .int .i64 x.over, .int .i64 x.size, .int .i64 x.child] 170)).trans (hb2.mono (by have := HBW.out.size; simp; omega))); clear hb2)
       | fail)
     go_roundw
     case rel => first | exact ⟨j + 1, y + z, by go_num, by go_num, by omega, by omega, Lib.hid (by rw [HT.out, HY.out]; omega), HB2.out⟩ | ((repeat apply Exists.intro); exact ⟨⟨j + 1, y + z, by go_num, by go_num, by omega, by omega, Lib.hid (by rw [HT.out, HY.out]; omega), HB2.out⟩, rfl⟩)
     case measure => simp [intOf]; omega
   · have z1 : decide ((j : Int) < (l.length : Int)) = false := decide_eq_false (by omega)
     have HV := Lib.hid (show N = (y : Int) by rw [HN.out, HY.out, List.take_of_length_le (by omega)]; rfl)
     clear hbw
     go_wp2_with fail
     go_ret
     exact tellsI_of HV.out HBW.out
theorem below_drewN {B : Nat} {w w' : World} (h : Below B w w') (n : Nat) : Below B w (w'.drewN n) := ⟨h.os, h.tape, h.output, h.size, h.block⟩
theorem five_after {w w2 : World} {t : TypeId} {v0 v1 v2 v3 v4 : Value} (hb : Below (w.alloc (.cells #[v0, v1, v2, v3, v4] t)).heap.size (w.alloc (.cells #[v0, v1, v2, v3, v4] t)) w2) :
   w2.cell? ⟨w.heap.size, 0, none⟩ = some v0 ∧ w2.cell? ⟨w.heap.size, 1, none⟩ = some v1 ∧ w2.cell? ⟨w.heap.size, 2, none⟩ = some v2 ∧ w2.cell? ⟨w.heap.size, 3, none⟩ = some v3 ∧ w2.cell? ⟨w.heap.size, 4, none⟩ = some v4 ∧
     w.heap.size < w2.heap.size ∧ Below w.heap.size w w2 ∧ Bk w2 w.heap.size t #[v0, v1, v2, v3, v4] := by
 have h := bk_below (Bk.new w t #[v0, v1, v2, v3, v4]) hb
 exact ⟨h.cell 0, h.cell 1, h.cell 2, h.cell 3, h.cell 4, h.lt, ((Below.refl _ w).alloc (Nat.le_refl _) _).trans (hb.mono (by simp)), h⟩
set_option maxHeartbeats 8000000 in
theorem right_yes (leaf : Bool) (r : Rw) (l : List Ce) (S : Nat → Prop) (w : World) (h : CRow w S r l) (hl : l.length ≤ 10000) (hr : Nd.right leaf l = true) :
   Calls Tryz.prog 268 #[.bool leaf, .slice r.A r.n r.c] w (TellsQ true w) := by
 obtain ⟨A, n, cap⟩ := r
 have hr0 := h
 obtain ⟨h1, h2, h3, -⟩ := hr0
 simp only at h1 h2 h3 ⊢
 subst h1
 have HR := Lib.hid h
 have hcm : cap ≤ 9223372036854775807 := by unfold maxLen at h3; omega
 unfold Nd.right at hr
 simp only [Bool.and_eq_true, Bool.or_eq_true] at hr
 obtain ⟨hfirst, hall, hrise⟩ := hr
 have HA := Lib.hid hall
 have HI := Lib.hid hrise
 clear h3 hall hrise
 cases leaf with
 | true =>
   clear hfirst h
   go_enter Tryz.func268, Tryz.ntmps268
   go_wp2_with fail
   go_loopw [24] (fun i wr => ∃ (j : Nat), i = .int .i64 j ∧ j ≤ l.length ∧ Below w.heap.size w wr) (fun i _ => l.length - (intOf i).toNat)
   case atStart => exact ⟨0, rfl, Nat.zero_le _, Below.refl _ _⟩
   case round =>
     obtain ⟨j, rfl, hj, hbw⟩ := hrel
     have HBW := Lib.hid hbw
     by_cases hlt : j < l.length
     · have z1 : decide ((j : Int) < (l.length : Int)) = true := decide_eq_true (by omega)
       obtain ⟨b, o, hA, hS, q0, q1, q2, q3, q4⟩ := (HR.out.below hbw).at j hlt
       simp only at hA
       subst hA
       have hbl := hS.2
       have HC := Lib.hid fun (W : World) => rightBranch_some l[j] W
       have HD := Lib.hid fun (W : World) => rightLeaf_yes l[j] W (by have := List.all_eq_true.1 HA.out _ (List.getElem_mem hlt); exact this)
       obtain ⟨x, hx⟩ : ∃ x, x = l[j] := ⟨_, rfl⟩
       have HX := Lib.hid hx
       rw [← hx] at HC HD q0 q1 q2 q3 q4
       clear hS hx hbw
       go_wp2_with fail
       (go_at_call 286)
       refine (HC.out _).mono ?_
       rintro e w2 ⟨hb2, q, rfl⟩
       obtain ⟨p0, p1, p2, p3, p4, l2, hn2, -⟩ := five_after hb2
       have HN2 := Lib.hid (HBW.out.trans (hn2.mono HBW.out.size))
       clear hn2
       go_wp2_with fail
       (go_at_call 287)
       refine (HD.out _).mono ?_
       rintro e w3 ⟨rfl, hb3⟩
       have hk3 := bk_below (five_after hb2).2.2.2.2.2.2.2 hb3
       have s0 : w3.cell? ⟨wr.heap.size, 0, none⟩ = some (.string x.key) := hk3.cell 0
       have l3 := hk3.lt
       have HN3 := Lib.hid (HN2.out.trans (hb3.mono HN2.out.size))
       clear hb2 hb3 hk3 p0 p1 p2 p3 p4 q0 q1 q2 q3 q4
       by_cases hj0 : j = 0
       · subst hj0
         have z2 : decide ((0 : Int) < ((0 : Nat) : Int)) = false := decide_eq_false (by omega)
         go_wp2_with fail
         go_quiet (fail)
         go_wp2_with fail
         go_roundw
         case rel => exact ⟨1, rfl, by omega, below_drewN HN3.out _⟩
         case measure => simp [intOf]; omega
       · obtain ⟨i, rfl⟩ : ∃ i, j = i + 1 := ⟨j - 1, by omega⟩
         obtain ⟨b', o', hA, hS, r0, -⟩ := (HR.out.below HN3.out).at i (by omega)
         simp only at hA
         obtain ⟨rfl, rfl⟩ : b = b' ∧ o = o' := by injection hA with hA; injection hA with h1 h2; exact ⟨h1, h2⟩
         have hbl3 := hS.2
         have hlt2 := Nd.rise_at HI.out i hlt
         rw [← HX.out] at hlt2
         obtain ⟨y, hy⟩ : ∃ y, y = l[i] := ⟨_, rfl⟩
         rw [← hy] at r0 hlt2
         have t1 : Op.bytesLess x.key.toList y.key.toList = false := Nd.lt_asymm hlt2
         have t2 := (Nd.lt_ne hlt2).2
         have hw1 : IntKind.i64.wrap (((i + 1 : Nat) : Int) - 1) = (i : Int) := by rw [show (((i + 1 : Nat) : Int) - 1) = (i : Int) by omega]; exact wrap_i64 i (by omega)
         have z2 : decide ((0 : Int) < ((i + 1 : Nat) : Int)) = true := decide_eq_true (by omega)
         clear hA hS hy hlt2
         go_wp2_with fail
         go_quiet (fail)
         go_wp2_with fail
         go_roundw
         case rel => exact ⟨i + 1 + 1, by go_num, by omega, below_drewN HN3.out _⟩
         case measure => simp [intOf]; omega
     · have z1 : decide ((j : Int) < (l.length : Int)) = false := decide_eq_false (by omega)
       clear hbw
       go_wp2_with fail
       go_ret
       exact tellsQ_of rfl HBW.out
 | false =>
   obtain ⟨c0, ls, rfl⟩ : ∃ c0 ls, l = c0 :: ls := by
     cases l with
     | nil => simp at hfirst
     | cons a b => exact ⟨a, b, rfl⟩
   have hk0 : c0.key = ⟨#[]⟩ := str_nil (by simpa using hfirst)
   have y1 : (((c0 :: ls).length : Int) == 0) = false := by rw [beq_eq_false_iff_ne, List.length_cons]; omega
   have y2 : ((c0 :: ls).length == 0) = false := by simp
   have y3 : decide ((0 : Int) < ((c0 :: ls).length : Int)) = true := decide_eq_true (by rw [List.length_cons]; omega)
   obtain ⟨b0, o0, hA0, hS0, e0, -⟩ := h.at 0 (by simp)
   simp only at hA0
   have e0' : w.cell? ⟨b0, o0, none⟩ = some (.string ⟨#[]⟩) := by have := e0; simp only [Nat.zero_mul, Nat.add_zero, List.getElem_cons_zero] at this; rw [this, hk0]
   subst hA0
   have hl0 := hS0.2
   obtain ⟨l, hl9⟩ : ∃ l, l = c0 :: ls := ⟨_, rfl⟩
   rw [← hl9] at HR HA HI hl h2 y1 y2 y3 ⊢
   have y4 : 0 < l.length := by rw [hl9]; simp
   clear hfirst hS0 e0 hk0 hl9 h
   go_enter Tryz.func268, Tryz.ntmps268
   go_wp2_with fail
   go_loopw [24] (fun i wr => ∃ (j : Nat), i = .int .i64 j ∧ j ≤ l.length ∧ Below w.heap.size w wr) (fun i _ => l.length - (intOf i).toNat)
   case atStart => exact ⟨0, rfl, Nat.zero_le _, Below.refl _ _⟩
   case round =>
     obtain ⟨j, rfl, hj, hbw⟩ := hrel
     have HBW := Lib.hid hbw
     by_cases hlt : j < l.length
     · have z1 : decide ((j : Int) < (l.length : Int)) = true := decide_eq_true (by omega)
       obtain ⟨b, o, hA, hS, q0, q1, q2, q3, q4⟩ := (HR.out.below hbw).at j hlt
       simp only at hA
       obtain ⟨rfl, rfl⟩ : b0 = b ∧ o0 = o := by injection hA with hA; injection hA with h1 h2; exact ⟨h1, h2⟩
       clear hA
       have hbl := hS.2
       have HC := Lib.hid fun (W : World) => rightBranch_yes l[j] W (by have := List.all_eq_true.1 HA.out _ (List.getElem_mem hlt); exact this)
       obtain ⟨x, hx⟩ : ∃ x, x = l[j] := ⟨_, rfl⟩
       have HX := Lib.hid hx
       rw [← hx] at HC q0 q1 q2 q3 q4
       clear hS hx hbw
       go_wp2_with fail
       (go_at_call 286)
       refine (HC.out _).mono ?_
       rintro e w3 ⟨rfl, hb3⟩
       obtain ⟨-, -, -, -, -, -, hn3, hk3⟩ := five_after hb3
       have s0 : w3.cell? ⟨wr.heap.size, 0, none⟩ = some (.string x.key) := hk3.cell 0
       have l3 := hk3.lt
       have HN3 := Lib.hid (HBW.out.trans (hn3.mono HBW.out.size))
       clear hb3 hk3 hn3 q0 q1 q2 q3 q4
       by_cases hj0 : j = 0
       · subst hj0
         have z2 : decide ((0 : Int) < ((0 : Nat) : Int)) = false := decide_eq_false (by omega)
         go_wp2_with fail
         go_quiet (fail)
         go_wp2_with fail
         go_roundw
         case rel => exact ⟨1, rfl, by omega, below_drewN HN3.out _⟩
         case measure => simp [intOf]; omega
       · obtain ⟨i, rfl⟩ : ∃ i, j = i + 1 := ⟨j - 1, by omega⟩
         obtain ⟨b', o', hA, hS, r0, -⟩ := (HR.out.below HN3.out).at i (by omega)
         simp only at hA
         obtain ⟨rfl, rfl⟩ : b0 = b' ∧ o0 = o' := by injection hA with hA; injection hA with h1 h2; exact ⟨h1, h2⟩
         have hbl3 := hS.2
         have hlt2 := Nd.rise_at HI.out i hlt
         rw [← HX.out] at hlt2
         obtain ⟨y, hy⟩ : ∃ y, y = l[i] := ⟨_, rfl⟩
         rw [← hy] at r0 hlt2
         have t1 : Op.bytesLess x.key.toList y.key.toList = false := Nd.lt_asymm hlt2
         have t2 := (Nd.lt_ne hlt2).2
         have hw1 : IntKind.i64.wrap (((i + 1 : Nat) : Int) - 1) = (i : Int) := by rw [show (((i + 1 : Nat) : Int) - 1) = (i : Int) by omega]; exact wrap_i64 i (by omega)
         have z2 : decide ((0 : Int) < ((i + 1 : Nat) : Int)) = true := decide_eq_true (by omega)
         clear hA hS hy hlt2
         go_wp2_with fail
         go_quiet (fail)
         go_wp2_with fail
         go_roundw
         case rel => exact ⟨i + 1 + 1, by go_num, by omega, below_drewN HN3.out _⟩
         case measure => simp [intOf]; omega
     · have z1 : decide ((j : Int) < (l.length : Int)) = false := decide_eq_false (by omega)
       clear hbw
       go_wp2_with fail
       go_ret
       exact tellsQ_of rfl HBW.out
theorem list_eq {a b : ByteArray} (h : a.data.toList = b.data.toList) : a = b := by
 obtain ⟨⟨a⟩⟩ := a
 obtain ⟨⟨b⟩⟩ := b
 simp only at h
 subst h
 rfl
theorem lit_list (l : List UInt8) : (⟨l.toArray⟩ : ByteArray).data.toList = l := rfl
set_option maxHeartbeats 8000000 in
theorem cell_branch (c : Ce) (w : World) (h : Nd.rightBranch c = true) : Calls Tryz.prog 269 #[.bool false, .agg #[.string c.key, .string c.val, .int .i64 c.over, .int .i64 c.size, .int .i64 c.child]] w (TellsS ⟨(Nd.bytes false c).toArray⟩ w) := by
 obtain ⟨key, val, over, size, child⟩ := c
 unfold Nd.rightBranch at h
 simp only [Bool.and_eq_true, decide_eq_true_eq, beq_iff_eq] at h
 obtain ⟨⟨⟨⟨⟨h1, h2⟩, h3⟩, h4⟩, rfl⟩, rfl⟩ := h
 have HT := Lib.hid fun (W : World) => text_ok ⟨#[]⟩ key W (by decide) (by omega)
 obtain ⟨s, hs⟩ : ∃ s : ByteArray, s = ⟨#[]⟩ ++ ⟨(Be.low key.size 2).toArray⟩ ++ key := ⟨_, rfl⟩
 rw [← hs] at HT
 have hss : s.size ≤ 1000 := by
   have h2 := size_list (Be.low key.size 2)
   rw [Be.low_len] at h2
   rw [hs, ByteArray.size_append, ByteArray.size_append, h2]
   have : (⟨#[]⟩ : ByteArray).size = 0 := rfl
   omega
 have HP := Lib.hid fun (W : World) => (show Calls Tryz.prog 160 #[.string s, .int .u64 child, .int .i64 4] W (TellsSE (s ++ ⟨(Be.low child 4).toArray⟩) 0 W) from put_ok s child 4 W (by omega) (by omega) (by omega) (by omega))
 have hw := wrap_u64 child (by omega)
 obtain ⟨q, hq⟩ : ∃ q : ByteArray, q = s ++ ⟨(Be.low child 4).toArray⟩ := ⟨_, rfl⟩
 rw [← hq] at HP
 have HV := Lib.hid (show (⟨(Nd.bytes false ⟨key, val, 0, 0, child⟩).toArray⟩ : ByteArray) = q by
   rw [hq, hs]; apply list_eq; simp only [append_list, lit_list, Nd.bytes]; simp)
 clear hs hq h1 h2 h3 h4
 go_enter Tryz.func269, Tryz.ntmps269
 go_wp2_with (first
   | (go_at_call 288; go_must (refine (HT.out _).mono ?_); rintro e w1 ⟨rfl, hb1⟩; obtain ⟨-, -, -, -, p4, l1, hn1, -⟩ := five_after hb1; have HN1 := Lib.hid hn1; clear hn1 hb1)
   | (go_at_call 160; go_must (refine (HP.out _).mono ?_); rintro e w2 ⟨rfl, hb2⟩)
   | fail)
 go_ret
 exact tellsS_of HV.out (HN1.out.trans (hb2.mono HN1.out.size))
set_option maxHeartbeats 8000000 in
theorem cell_leaf (c : Ce) (w : World) (h : Nd.rightLeaf c = true) : Calls Tryz.prog 269 #[.bool true, .agg #[.string c.key, .string c.val, .int .i64 c.over, .int .i64 c.size, .int .i64 c.child]] w (TellsS ⟨(Nd.bytes true c).toArray⟩ w) := by
 obtain ⟨key, val, over, size, child⟩ := c
 unfold Nd.rightLeaf at h
 simp only [Bool.and_eq_true, decide_eq_true_eq, beq_iff_eq] at h
 obtain ⟨⟨⟨h1, h2⟩, rfl⟩, h4⟩ := h
 have HT := Lib.hid fun (W : World) => text_ok ⟨#[]⟩ key W (by decide) (by omega)
 obtain ⟨s, hs⟩ : ∃ s : ByteArray, s = ⟨#[]⟩ ++ ⟨(Be.low key.size 2).toArray⟩ ++ key := ⟨_, rfl⟩
 rw [← hs] at HT
 have hss : s.size ≤ 1000 := by
   have h2 := size_list (Be.low key.size 2)
   rw [Be.low_len] at h2
   rw [hs, ByteArray.size_append, ByteArray.size_append, h2]
   have : (⟨#[]⟩ : ByteArray).size = 0 := rfl
   omega
 by_cases ho : over = 0
 · subst ho
   rw [if_pos rfl] at h4
   simp only [Bool.and_eq_true, decide_eq_true_eq, beq_iff_eq] at h4
   obtain ⟨rfl, h5⟩ := h4
   have hs0 : (s ++ ⟨#[0]⟩ : ByteArray).size ≤ 1001 := by rw [ByteArray.size_append]; have : (⟨#[0]⟩ : ByteArray).size = 1 := rfl; omega
   have HP := Lib.hid fun (W : World) => text_ok (s ++ ⟨#[0]⟩) val W (by omega) (by omega)
   obtain ⟨q, hq⟩ : ∃ q : ByteArray, q = s ++ ⟨#[0]⟩ ++ ⟨(Be.low val.size 2).toArray⟩ ++ val := ⟨_, rfl⟩
   rw [← hq] at HP
   have HV := Lib.hid (show (⟨(Nd.bytes true ⟨key, val, 0, 0, 0⟩).toArray⟩ : ByteArray) = q by
     rw [hq, hs]; apply list_eq; simp only [append_list, lit_list, Nd.bytes]; simp)
   clear hs hq h1 h2 h5
   go_enter Tryz.func269, Tryz.ntmps269
   go_wp2_with fail
   (go_at_call 288)
   refine (HT.out _).mono ?_
   rintro e w1 ⟨rfl, hb1⟩
   obtain ⟨p0, p1, p2, p3, p4, l1, hn1, -⟩ := five_after hb1
   have HN1 := Lib.hid hn1
   clear hn1 hb1
   go_wp2_with fail
   (go_at_call 288)
   refine (HP.out _).mono ?_
   rintro e w2 ⟨rfl, hb2⟩
   go_wp2_with fail
   go_ret
   exact tellsS_of HV.out (HN1.out.trans (hb2.mono HN1.out.size))
 · rw [if_neg ho] at h4
   simp only [Bool.and_eq_true, decide_eq_true_eq, beq_iff_eq] at h4
   obtain ⟨⟨⟨h5, h6⟩, h7⟩, h8⟩ := h4
   obtain rfl := str_nil h5
   have k1 : decide ((0 : Int) < (over : Int)) = true := decide_eq_true (by omega)
   have k2 : decide (0 < over) = true := decide_eq_true (by omega)
   have hw := wrap_u64 over (by omega)
   have hw2 := wrap_u64 size (by omega)
   have hs0 : (s ++ ⟨#[1]⟩ : ByteArray).size ≤ 1001 := by rw [ByteArray.size_append]; have : (⟨#[1]⟩ : ByteArray).size = 1 := rfl; omega
   have HP := Lib.hid fun (W : World) => (show Calls Tryz.prog 160 #[.string (s ++ ⟨#[1]⟩), .int .u64 over, .int .i64 4] W (TellsSE (s ++ ⟨#[1]⟩ ++ ⟨(Be.low over 4).toArray⟩) 0 W) from put_ok _ over 4 W (by omega) (by omega) (by omega) (by omega))
   obtain ⟨q, hq⟩ : ∃ q : ByteArray, q = s ++ ⟨#[1]⟩ ++ ⟨(Be.low over 4).toArray⟩ := ⟨_, rfl⟩
   rw [← hq] at HP
   have hqs : q.size ≤ 1010 := by
     have h2 := size_list (Be.low over 4)
     rw [Be.low_len] at h2
     rw [hq, ByteArray.size_append, h2]; omega
   have HP2 := Lib.hid fun (W : World) => (show Calls Tryz.prog 160 #[.string q, .int .u64 size, .int .i64 4] W (TellsSE (q ++ ⟨(Be.low size 4).toArray⟩) 0 W) from put_ok _ size 4 W (by omega) (by omega) (by omega) (by omega))
   obtain ⟨q2, hq2⟩ : ∃ q2 : ByteArray, q2 = q ++ ⟨(Be.low size 4).toArray⟩ := ⟨_, rfl⟩
   rw [← hq2] at HP2
   have HV := Lib.hid (show (⟨(Nd.bytes true ⟨key, ⟨#[]⟩, over, size, 0⟩).toArray⟩ : ByteArray) = q2 by
     rw [hq2, hq, hs]; apply list_eq; simp only [append_list, lit_list, Nd.bytes, if_true]; rw [if_pos (by omega)]; simp)
   clear hs hq hq2 h1 h2 h5 h6 h7 h8 ho
   go_enter Tryz.func269, Tryz.ntmps269
   go_wp2_with fail
   (go_at_call 288)
   refine (HT.out _).mono ?_
   rintro e w1 ⟨rfl, hb1⟩
   obtain ⟨p0, p1, p2, p3, p4, l1, hn1, hk1⟩ := five_after hb1
   have HN1 := Lib.hid hn1
   have HK1 := Lib.hid hk1
   clear hn1 hb1 hk1
   go_wp2_with fail
   (go_at_call 160)
   refine (HP.out _).mono ?_
   rintro e w2 ⟨rfl, hb2⟩
   have r3 : w2.cell? ⟨w.heap.size, 3, none⟩ = some (.int .i64 size) := (bk_below HK1.out hb2).cell 3
   have l2 := (bk_below HK1.out hb2).lt
   have HN2 := Lib.hid (HN1.out.trans (hb2.mono HN1.out.size))
   clear hb2
   go_wp2_with fail
   (go_at_call 160)
   refine (HP2.out _).mono ?_
   rintro e w3 ⟨rfl, hb3⟩
   go_wp2_with fail
   go_ret
   exact tellsS_of HV.out (HN2.out.trans (hb3.mono HN2.out.size))
theorem Nd.one_small {leaf : Bool} {c : Ce} (h : Nd.rightOne leaf c = true) : c.key.size ≤ 120 ∧ c.val.size ≤ 96 ∧ c.over < 512 ∧ c.size ≤ 4000 ∧ c.child < 512 := by
 unfold Nd.rightOne at h
 cases leaf
 · simp only [Bool.false_eq_true, if_false, Nd.rightBranch, Bool.and_eq_true, decide_eq_true_eq, beq_iff_eq] at h
   omega
 · simp only [if_true, Nd.rightLeaf, Bool.and_eq_true, decide_eq_true_eq, beq_iff_eq] at h
   obtain ⟨⟨⟨h1, h2⟩, h3⟩, h4⟩ := h
   by_cases ho : c.over = 0
   · rw [if_pos ho] at h4; simp only [Bool.and_eq_true, decide_eq_true_eq, beq_iff_eq] at h4; omega
   · rw [if_neg ho] at h4; simp only [Bool.and_eq_true, decide_eq_true_eq, beq_iff_eq] at h4; omega
theorem Nd.right_small {leaf : Bool} {l : List Ce} (h : Nd.right leaf l = true) (hl : l.length ≤ 10000) : Small l := by
 unfold Nd.right at h
 simp only [Bool.and_eq_true] at h
 exact ⟨hl, fun c hc => by have := Nd.one_small (List.all_eq_true.1 h.2.1 c hc); omega⟩
theorem cell_any (leaf : Bool) (c : Ce) (w : World) (h : Nd.rightOne leaf c = true) : Calls Tryz.prog 269 #[.bool leaf, .agg #[.string c.key, .string c.val, .int .i64 c.over, .int .i64 c.size, .int .i64 c.child]] w (TellsS ⟨(Nd.bytes leaf c).toArray⟩ w) := by
 cases leaf with
 | true => exact cell_leaf c w h
 | false => exact cell_branch c w h
set_option maxHeartbeats 8000000 in
theorem encode_yes (leaf : Bool) (r : Rw) (l : List Ce) (S : Nat → Prop) (w : World) (h : CRow w S r l) (hr : Nd.right leaf l = true) (hs : Nd.sum leaf l ≤ 488) :
   Calls Tryz.prog 251 #[.bool leaf, .slice r.A r.n r.c] w (TellsSE ⟨(Nd.enc leaf l).toArray⟩ 0 w) := by
 obtain ⟨A, n, cap⟩ := r
 have hr0 := h
 obtain ⟨h1, h2, h3, -⟩ := hr0
 simp only at h1 h2 h3 ⊢
 subst h1
 have hall : ∀ c ∈ l, Nd.rightOne leaf c = true := by
   unfold Nd.right at hr
   simp only [Bool.and_eq_true] at hr
   exact fun c hc => List.all_eq_true.1 hr.2.1 c hc
 have hlen : (Nd.tail leaf l).length + 2 * l.length ≤ 486 := by
   have := Nd.tail_len leaf l
   unfold Nd.sum at hs
   omega
 have HR := Lib.hid h
 have HC1 := Lib.hid fun (W : World) (hb : Below w.heap.size w W) => right_yes leaf ⟨A, l.length, cap⟩ l S W (h.below hb) (by omega) hr
 have HC2 := Lib.hid fun (W : World) (hb : Below w.heap.size w W) => nsum_any leaf ⟨A, l.length, cap⟩ l S W (h.below hb) (Nd.right_small hr (by omega))
 have HC3 := Lib.hid fun (W : World) => (show Calls Tryz.prog 160 #[.string ⟨#[]⟩, .int .u64 l.length, .int .i64 2] W (TellsSE (⟨#[]⟩ ++ ⟨(Be.low l.length 2).toArray⟩) 0 W) from put_ok ⟨#[]⟩ l.length 2 W (by decide) (by omega) (by omega) (by omega))
 obtain ⟨N, hN⟩ : ∃ N, N = Nd.sum leaf l := ⟨_, rfl⟩
 rw [← hN] at HC2
 have z0 : decide ((488 : Int) < (N : Int)) = false := decide_eq_false (by omega)
 have hw := wrap_u64 l.length (by omega)
 have hcm : cap ≤ 9223372036854775807 := by unfold maxLen at h3; omega
 have HA := Lib.hid hall
 obtain ⟨s0, hs0⟩ : ∃ s : ByteArray, s = ⟨#[]⟩ ++ ⟨(Be.low l.length 2).toArray⟩ := ⟨_, rfl⟩
 rw [← hs0] at HC3
 have HS0 := Lib.hid (show s0.data.toList = Be.low l.length 2 ++ Nd.slots leaf l (2 + 2 * l.length) 0 by rw [hs0]; simp [append_list, Nd.slots])
 have HLN := Lib.hid hlen
 have hlb : l.length ≤ 243 := by omega
 have htk : ∀ j, (Nd.tail leaf (l.take j)).length ≤ (Nd.tail leaf l).length := fun j => by
   have e : Nd.tail leaf l = Nd.tail leaf (l.take j) ++ Nd.tail leaf (l.drop j) := by rw [← Nd.tail_app, List.take_append_drop]
   rw [e, List.length_append]; omega
 have HTK := Lib.hid htk
 clear h h3 hr hs hN hall hs0 hlen htk
 go_enter Tryz.func251, Tryz.ntmps251
 go_wp2_with (first
   | (go_at_call 268; go_must (refine (HC1.out _ (Below.refl _ _)).mono ?_); rintro e w1 ⟨rfl, hb1⟩; have HN1 := Lib.hid hb1)
   | (go_at_call 254; go_must (refine (HC2.out _ HN1.out).mono ?_); rintro e w2 ⟨rfl, hb2⟩; have HN2 := Lib.hid (HN1.out.trans (hb2.mono HN1.out.size)))
   | (go_at_call 160; go_must (refine (HC3.out _).mono ?_); rintro e w3 ⟨rfl, hb3⟩; have HN3 := Lib.hid (HN2.out.trans (hb3.mono HN2.out.size)))
   | fail)
 clear hb1 hb2 hb3
 go_loopw [6, 8, 35] (fun u v i wr => ∃ (j : Nat) (s t : ByteArray), i = .int .i64 j ∧ u = .string s ∧ v = .string t ∧ j ≤ l.length ∧ s.size = 2 + 2 * j ∧ t.size ≤ 486 ∧ Hid (s.data.toList = Be.low l.length 2 ++ Nd.slots leaf l (2 + 2 * l.length) j) ∧ Hid (t.data.toList = Nd.tail leaf (l.take j)) ∧ Below w.heap.size w wr) (fun _ _ i _ => l.length - (intOf i).toNat)
 case atStart => exact ⟨0, s0, ⟨#[]⟩, rfl, rfl, rfl, Nat.zero_le _, by rw [← len_size, HS0.out, List.length_append, Be.low_len, Nd.slots_len], by decide, HS0, Lib.hid (by simp [Nd.tail]), HN3.out⟩
 case round =>
   obtain ⟨j, s, t, rfl, rfl, rfl, hj, hss, hts, HS, HT, hbw⟩ := hrel
   have HBW := Lib.hid hbw
   by_cases hlt : j < l.length
   · have z1 : decide ((j : Int) < (l.length : Int)) = true := decide_eq_true (by omega)
     obtain ⟨b, o, hA, hS, q0, q1, q2, q3, q4⟩ := (HR.out.below hbw).at j hlt
     simp only at hA
     subst hA
     have hbl := hS.2
     have hone := HA.out _ (List.getElem_mem hlt)
     have HC := Lib.hid fun (W : World) => cell_any leaf l[j] W hone
     have htl : (Nd.tail leaf (l.take j)).length = t.size := by rw [← HT.out]; rfl
     have hw2 : IntKind.u64.wrap (2 + 2 * (l.length : Int) + (t.size : Int)) = 2 + 2 * (l.length : Int) + (t.size : Int) := by
       have := wrap_u64 (2 + 2 * l.length + t.size) (by omega)
       simpa using this
     have HP := Lib.hid fun (W : World) => (show Calls Tryz.prog 160 #[.string s, .int .u64 (2 + 2 * (l.length : Int) + (t.size : Int)), .int .i64 2] W (TellsSE (s ++ ⟨(Be.low (2 + 2 * l.length + t.size) 2).toArray⟩) 0 W) by
       have := put_ok s (2 + 2 * l.length + t.size) 2 W (by omega) (by omega) (by omega) (by omega)
       simpa using this)
     obtain ⟨s', hs'⟩ : ∃ s' : ByteArray, s' = s ++ ⟨(Be.low (2 + 2 * l.length + t.size) 2).toArray⟩ := ⟨_, rfl⟩
     rw [← hs'] at HP
     have HS' := Lib.hid (show s'.data.toList = Be.low l.length 2 ++ Nd.slots leaf l (2 + 2 * l.length) (j + 1) by
       rw [hs', append_list, HS.out, lit_list, Nd.slots, htl, List.append_assoc])
     have hss' : s'.size = 2 + 2 * (j + 1) := by rw [← len_size, HS'.out, List.length_append, Be.low_len, Nd.slots_len]
     obtain ⟨d, hd⟩ : ∃ d : ByteArray, d = ⟨(Nd.bytes leaf l[j]).toArray⟩ := ⟨_, rfl⟩
     have HTN := Lib.hid (show (t ++ d).data.toList = Nd.tail leaf (l.take (j + 1)) by
       rw [append_list, HT.out, hd, List.take_succ_eq_append_getElem hlt, Nd.tail_app]; simp [Nd.tail])
     have htn : (t ++ d).size ≤ 486 := by
       have := HTK.out (j + 1)
       have h9 := HLN.out
       rw [← len_size, HTN.out]; omega
     have hdn : ¬ 9223372036854775807 < t.size + d.size := by rw [ByteArray.size_append] at htn; omega
     rw [← hd] at HC
     obtain ⟨x, hx⟩ : ∃ x, x = l[j] := ⟨_, rfl⟩
     rw [← hx] at HC q0 q1 q2 q3 q4
     clear hS hx hbw hone hs' hd htl
     go_wp2_with fail
     (go_at_call 160)
     refine (HP.out _).mono ?_
     rintro e w4 ⟨rfl, hb4⟩
     obtain ⟨p0, p1, p2, p3, p4, l4, hn4, -⟩ := five_after hb4
     have HN4 := Lib.hid (HBW.out.trans (hn4.mono HBW.out.size))
     clear hb4 hn4
     go_wp2_with fail
     (go_at_call 269)
     refine (HC.out _).mono ?_
     rintro e w5 ⟨rfl, hb5⟩
     have HN5 := Lib.hid (HN4.out.trans (hb5.mono HN4.out.size))
     clear hb5
     go_wp2_with fail
     go_roundw
     case rel => first | exact ⟨j + 1, s', t ++ d, by go_num, rfl, rfl, by omega, hss', htn, HS', HTN, HN5.out⟩ | ((repeat apply Exists.intro); exact ⟨⟨j + 1, s', t ++ d, by go_num, rfl, rfl, by omega, hss', htn, HS', HTN, HN5.out⟩, rfl⟩)
     case measure => simp [intOf]; omega
   · have z1 : decide ((j : Int) < (l.length : Int)) = false := decide_eq_false (by omega)
     obtain rfl : j = l.length := by omega
     have HV := Lib.hid (show (⟨(Nd.enc leaf l).toArray⟩ : ByteArray) = s ++ t by
       apply list_eq; rw [append_list, HS.out, HT.out, List.take_length]; rfl)
     have hdn : ¬ 9223372036854775807 < s.size + t.size := by omega
     clear hbw
     go_wp2_with fail
     go_ret2
     exact tellsSE_of HV.out HBW.out
end Go.Proofs.YtjbcbnemdhbhbaaGreatDoor

import Derived.Test.YtjbcbnemdhbhbaaGreatDoorK1
import Derived.Test.YtjbcbnemdhbhbaaGreatDoorK2
import Derived.Deep.CutBlock
import Derived.PlainAid
namespace Go.Proofs.YtjbcbnemdhbhbaaGreatDoor
open Go.RowKit
set_option maxRecDepth 100000
set_option linter.unusedVariables false
set_option linter.unusedSimpArgs false
theorem tellsI_of {q q' : Int} {w w' : World} (h : q = q') (hb : Below w.heap.size w w') : TellsI q w (.returned (.int .i64 q')) w' := by subst h; exact ⟨rfl, hb⟩
theorem CRow.at {w : World} {S : Nat → Prop} {r : Rw} {l : List Ce} (h : CRow w S r l) (i : Nat) (hi : i < l.length) : ∃ b o, r.A = some ⟨b, o, none⟩ ∧ (S b ∧ b < w.heap.size) ∧ w.cell? ⟨b, o + i * 5, none⟩ = some (.string l[i].key) ∧
    w.cell? ⟨b, o + i * 5 + 1, none⟩ = some (.string l[i].val) ∧ w.cell? ⟨b, o + i * 5 + 2, none⟩ = some (.int .i64 l[i].over) ∧ w.cell? ⟨b, o + i * 5 + 3, none⟩ = some (.int .i64 l[i].size) ∧ w.cell? ⟨b, o + i * 5 + 4, none⟩ = some (.int .i64 l[i].child) := by
  obtain ⟨h1, h2, h3, h4⟩ := h
  obtain ⟨b, o, c, q1, q2, q3, q4, q5⟩ := h4 i l[i] (List.getElem?_eq_getElem hi)
  unfold CeAt at q5
  subst q5
  exact ⟨b, o, q1, q2, q4 0 _ rfl, q4 1 _ rfl, q4 2 _ rfl, q4 3 _ rfl, q4 4 _ rfl⟩
theorem CRow.keep {w w' : World} {S T : Nat → Prop} {r : Rw} {l : List Ce} (h : CRow w S r l) (hs : w.heap.size ≤ w'.heap.size) (hk : ∀ b, S b → b < w.heap.size → w'.heap[b]? = w.heap[b]?) (hT : ∀ b, S b → b < w.heap.size → T b) : CRow w' T r l :=
  RowOf.keep ceAt_stable h hs hk hT
theorem CRow.below {w w' : World} {S : Nat → Prop} {r : Rw} {l : List Ce} (h : CRow w S r l) (hb : Below w.heap.size w w') : CRow w' S r l :=
  h.keep hb.size (fun b _ hlt => hb.block b hlt) (fun _ h _ => h)
theorem str_nil {s : ByteArray} (h : s.size = 0) : s = ⟨#[]⟩ := by
  obtain ⟨⟨l⟩⟩ := s
  have : l.length = 0 := h
  obtain rfl := List.eq_nil_of_length_eq_zero this
  rfl
theorem str_full {s : ByteArray} (h : 0 < s.size) : s.toList.isEmpty = false := by
  rw [ByteArray.toList_eq]
  have : s.data.toList.length = s.size := rfl
  cases hl : s.data.toList with
  | nil => rw [hl] at this; simp at this; omega
  | cons _ _ => rfl
set_option maxHeartbeats 4000000 in
theorem rightLeaf_yes (c : Ce) (w : World) (h : Nd.rightLeaf c = true) : Calls Tryz.prog 287 #[.agg #[.string c.key, .string c.val, .int .i64 c.over, .int .i64 c.size, .int .i64 c.child]] w (TellsQ true w) := by
  obtain ⟨key, val, over, size, child⟩ := c
  unfold Nd.rightLeaf at h
  simp only [Bool.and_eq_true, decide_eq_true_eq, beq_iff_eq] at h
  obtain ⟨⟨⟨h1, h2⟩, rfl⟩, h4⟩ := h
  have k1 := str_full h1
  have k2 : decide ((120 : Int) < (key.size : Int)) = false := decide_eq_false (by omega)
  by_cases ho : over = 0
  · rw [if_pos ho] at h4
    simp only [Bool.and_eq_true, decide_eq_true_eq, beq_iff_eq] at h4
    obtain ⟨rfl, h5⟩ := h4
    subst ho
    have k3 : decide ((val.size : Int) ≤ 96) = true := decide_eq_true (by omega)
    clear h1 h2 h5
    go_enter Tryz.func287, Tryz.ntmps287
    go_wp2_with fail
    go_ret
    exact tellsQ_of rfl ((Below.refl _ w).alloc (Nat.le_refl _) _)
  · rw [if_neg ho] at h4
    simp only [Bool.and_eq_true, decide_eq_true_eq, beq_iff_eq] at h4
    obtain ⟨⟨⟨h5, h6⟩, h7⟩, h8⟩ := h4
    have hv := str_nil h5
    subst hv
    have k3 : ((over : Int) == 0) = false := by rw [beq_eq_false_iff_ne]; omega
    have k3' : (over == 0) = false := by rw [beq_eq_false_iff_ne]; omega
    have k4 : decide ((1 : Int) ≤ (over : Int)) = true := decide_eq_true (by omega)
    have k5 : decide ((over : Int) < 512) = true := decide_eq_true (by omega)
    have k6 : decide ((96 : Int) < (size : Int)) = true := decide_eq_true (by omega)
    have k7 : decide ((size : Int) ≤ 4000) = true := decide_eq_true (by omega)
    clear h1 h2 h5 h6 h7 h8 ho
    go_enter Tryz.func287, Tryz.ntmps287
    go_wp2_with fail
    go_ret
    exact tellsQ_of rfl ((Below.refl _ w).alloc (Nat.le_refl _) _)
set_option maxHeartbeats 4000000 in
theorem rightBranch_yes (c : Ce) (w : World) (h : Nd.rightBranch c = true) : Calls Tryz.prog 286 #[.agg #[.string c.key, .string c.val, .int .i64 c.over, .int .i64 c.size, .int .i64 c.child]] w (TellsQ true w) := by
  obtain ⟨key, val, over, size, child⟩ := c
  unfold Nd.rightBranch at h
  simp only [Bool.and_eq_true, decide_eq_true_eq, beq_iff_eq] at h
  obtain ⟨⟨⟨⟨⟨h1, h2⟩, h3⟩, h4⟩, rfl⟩, rfl⟩ := h
  have hv := str_nil h4
  subst hv
  have k1 : decide ((key.size : Int) ≤ 120) = true := decide_eq_true (by omega)
  have k2 : decide ((1 : Int) ≤ (child : Int)) = true := decide_eq_true (by omega)
  have k3 : decide ((child : Int) < 512) = true := decide_eq_true (by omega)
  clear h1 h2 h3 h4
  go_enter Tryz.func286, Tryz.ntmps286
  go_wp2_with fail
  go_ret
  exact tellsQ_of rfl ((Below.refl _ w).alloc (Nat.le_refl _) _)
def TellsSome (w : World) (e : Ending) (w' : World) : Prop := Below w.heap.size w w' ∧ ∃ q : Bool, e = .returned (.bool q)
set_option maxHeartbeats 4000000 in
theorem rightBranch_some (c : Ce) (w : World) : Calls Tryz.prog 286 #[.agg #[.string c.key, .string c.val, .int .i64 c.over, .int .i64 c.size, .int .i64 c.child]] w (TellsSome w) := by
  obtain ⟨key, val, over, size, child⟩ := c
  go_enter Tryz.func286, Tryz.ntmps286
  go_wp2_with fail
  all_goals
    go_ret
    exact ⟨(Below.refl _ w).alloc (Nat.le_refl _) _, _, rfl⟩
set_option maxHeartbeats 4000000 in
theorem size_any (leaf : Bool) (c : Ce) (w : World) (hk : c.key.size ≤ 1000000) (hv : c.val.size ≤ 1000000) : Calls Tryz.prog 255 #[.bool leaf, .agg #[.string c.key, .string c.val, .int .i64 c.over, .int .i64 c.size, .int .i64 c.child]] w (TellsI (Nd.size leaf c) w) := by
  obtain ⟨key, val, over, size, child⟩ := c
  simp only at hk hv
  obtain ⟨n, hn⟩ : ∃ n : Int, n = (Nd.size leaf ⟨key, val, over, size, child⟩ : Nat) := ⟨_, rfl⟩
  rw [← hn]
  cases leaf with
  | false =>
    have HN := Lib.hid (show n = 4 + (key.size : Int) + 4 by rw [hn]; unfold Nd.size; simp)
    clear hn
    go_enter Tryz.func255, Tryz.ntmps255
    go_wp2_with fail
    go_ret
    exact tellsI_of HN.out ((Below.refl _ w).alloc (Nat.le_refl _) _)
  | true =>
    by_cases ho : 0 < over
    · have k1 : decide ((0 : Int) < (over : Int)) = true := decide_eq_true (by omega)
      have k2 : decide (0 < over) = true := decide_eq_true ho
      have HN := Lib.hid (show n = 4 + (key.size : Int) + 9 by rw [hn]; unfold Nd.size; simp [ho])
      clear hn ho
      go_enter Tryz.func255, Tryz.ntmps255
      go_wp2_with fail
      go_ret
      exact tellsI_of HN.out ((Below.refl _ w).alloc (Nat.le_refl _) _)
    · have k1 : decide ((0 : Int) < (over : Int)) = false := decide_eq_false (by omega)
      have k2 : decide (0 < over) = false := decide_eq_false ho
      have HN := Lib.hid (show n = 4 + (key.size : Int) + 3 + (val.size : Int) by rw [hn]; unfold Nd.size; simp [ho])
      clear hn ho
      go_enter Tryz.func255, Tryz.ntmps255
      go_wp2_with fail
      go_ret
      exact tellsI_of HN.out ((Below.refl _ w).alloc (Nat.le_refl _) _)
end Go.Proofs.YtjbcbnemdhbhbaaGreatDoor
namespace Go.Proofs.YtjbcbnemdhbhbaaGreatDoor
open Go.RowKit
set_option maxRecDepth 100000
set_option linter.unusedVariables false
set_option linter.unusedSimpArgs false
theorem wrap_u64 (n : Nat) (h : n < 18446744073709551616) : IntKind.u64.wrap (n : Int) = (n : Int) := IntWalk.u64_in _ (by omega)
theorem wrap_i64 (n : Nat) (h : n < 9223372036854775808) : IntKind.i64.wrap (n : Int) = (n : Int) := IntWalk.i64_in _ (by omega)
set_option maxHeartbeats 4000000 in
theorem text_ok (s t : ByteArray) (w : World) (hs : s.size ≤ 1000000) (ht : t.size ≤ 65535) :
    Calls Tryz.prog 288 #[.string s, .string t] w (TellsSE (s ++ ⟨(Be.low t.size 2).toArray⟩ ++ t) 0 w) := by
  have H := Lib.hid fun (W : World) => put_ok s t.size 2 W hs (by omega) (by omega) (by omega)
  have k1 : decide ((65535 : Int) < (t.size : Int)) = false := decide_eq_false (by omega)
  have hw := wrap_u64 t.size (by omega)
  obtain ⟨r, hr⟩ : ∃ r, r = s ++ ⟨(Be.low t.size 2).toArray⟩ := ⟨_, rfl⟩
  rw [← hr] at H ⊢
  have hrs : r.size ≤ 1000002 := by
    have h2 := size_list (Be.low t.size 2)
    rw [Be.low_len] at h2
    rw [hr, ByteArray.size_append, h2]; omega
  clear hr
  go_enter Tryz.func288, Tryz.ntmps288
  go_wp2_with (first
    | (go_at_call 160; go_must (refine (H.out _).mono ?_); rintro e w1 ⟨rfl, hb1⟩)
    | fail)
  go_ret2
  exact ⟨rfl, hb1⟩
set_option maxHeartbeats 4000000 in
theorem taketext_ok (s : ByteArray) (p n : Nat) (w : World) (hs : s.size ≤ 1000000) (hp : p + 2 + n ≤ s.size) (hn : numAt s p 2 = n) :
    Calls Tryz.prog 280 #[.string s, .int .i64 p] w (fun e w' => e = .returned (.tuple #[.string (s.extract (p + 2) (p + 2 + n)), .int .i64 ((p : Int) + 2 + n), .int .i64 0]) ∧ Below w.heap.size w w') := by
  have H := Lib.hid fun (W : World) => (show Calls Tryz.prog 120 #[.string s, .int .i64 p, .int .i64 2] W (TellsUE n W) by rw [← hn]; exact take_ok s p 2 W hs (by omega) (by omega) (by omega))
  have hw := wrap_u64 (s.size - p - 2) (by omega)
  have he : ((s.size - p - 2 : Nat) : Int) = (s.size : Int) - (p : Int) - 2 := by omega
  rw [he] at hw
  have k1 : decide ((s.size : Int) - (p : Int) - 2 < (n : Int)) = false := decide_eq_false (by omega)
  have hw2 := wrap_i64 n (by omega)
  clear hn he
  go_enter Tryz.func280, Tryz.ntmps280
  go_wp2_with (first
    | (go_at_call 120; go_must (refine (H.out _).mono ?_); rintro e w1 ⟨rfl, hb1⟩)
    | fail)
  go_ret3
  exact ⟨rfl, hb1⟩
def Small (l : List Ce) : Prop := l.length ≤ 10000 ∧ ∀ c ∈ l, c.key.size ≤ 1000 ∧ c.val.size ≤ 1000
theorem size_small (leaf : Bool) {c : Ce} (h : c.key.size ≤ 1000 ∧ c.val.size ≤ 1000) : Nd.size leaf c ≤ 2007 := by
  unfold Nd.size; repeat' split
  all_goals omega
theorem sum_small (leaf : Bool) {l : List Ce} (h : ∀ c ∈ l, c.key.size ≤ 1000 ∧ c.val.size ≤ 1000) : (l.map (Nd.size leaf)).sum ≤ 2007 * l.length := by
  induction l with
  | nil => simp
  | cons c l ih =>
    have h1 := size_small leaf (h c (by simp))
    have h2 := ih fun x hx => h x (by simp [hx])
    rw [List.map_cons, List.sum_cons, List.length_cons]
    omega
set_option maxHeartbeats 4000000 in
theorem nsum_any (leaf : Bool) (r : Rw) (l : List Ce) (S : Nat → Prop) (w : World) (h : CRow w S r l) (hl : Small l) :
    Calls Tryz.prog 254 #[.bool leaf, .slice r.A r.n r.c] w (TellsI (Nd.sum leaf l) w) := by
  obtain ⟨A, n, cap⟩ := r
  have hr := h
  obtain ⟨h1, h2, h3, -⟩ := hr
  simp only at h1 h2 h3 ⊢
  subst h1
  obtain ⟨N, hN⟩ : ∃ N : Int, N = (Nd.sum leaf l : Nat) := ⟨_, rfl⟩
  rw [← hN]
  have HN := Lib.hid hN
  have HR := Lib.hid h
  have HL := Lib.hid hl
  have hll := hl.1
  have hcm : cap ≤ 9223372036854775807 := by unfold maxLen at h3; omega
  clear h hN h3 hl
  go_enter Tryz.func254, Tryz.ntmps254
  go_wp2_with fail
  go_loopw [5, 10] (fun u i wr => ∃ (j y : Nat), i = .int .i64 j ∧ u = .int .i64 y ∧ j ≤ l.length ∧ y ≤ 2 + 2007 * j ∧ Hid (y = 2 + ((l.take j).map (Nd.size leaf)).sum) ∧ Below w.heap.size w wr) (fun _ i _ => l.length - (intOf i).toNat)
  case atStart => exact ⟨0, 2, rfl, rfl, Nat.zero_le _, by omega, Lib.hid (by simp), Below.refl _ _⟩
  case round =>
    obtain ⟨j, y, rfl, rfl, hj, hy, HY, hbw⟩ := hrel
    have HBW := Lib.hid hbw
    by_cases hlt : j < l.length
    · have z1 : decide ((j : Int) < (l.length : Int)) = true := decide_eq_true (by omega)
      obtain ⟨b, o, hA, hS, q0, q1, q2, q3, q4⟩ := (HR.out.below hbw).at j hlt
      simp only at hA
      subst hA
      have hbl := hS.2
      have hm := HL.out.2 _ (List.getElem_mem hlt)
      have hsz := size_small leaf hm
      have HC := Lib.hid fun (W : World) => size_any leaf l[j] W (by omega) (by omega)
      have HT := Lib.hid (show ((l.take (j + 1)).map (Nd.size leaf)).sum = ((l.take j).map (Nd.size leaf)).sum + Nd.size leaf l[j] by rw [List.take_succ_eq_append_getElem hlt, List.map_append, List.sum_append]; simp)
      obtain ⟨z, hz⟩ : ∃ z, z = Nd.size leaf l[j] := ⟨_, rfl⟩
      rw [← hz] at HC HT hsz
      obtain ⟨x, hx⟩ : ∃ x, x = l[j] := ⟨_, rfl⟩
      rw [← hx] at HC q0 q1 q2 q3 q4
      clear hS hm hz hx hbw
      go_wp2_with (first
        | (go_at_call 255; go_must (refine (HC.out _).mono ?_); rintro e w2 ⟨rfl, hb2⟩; have HB2 := Lib.hid ((HBW.out.alloc HBW.out.size (.cells #[.string x.key, .string x.val, .int .i64 x.over, .int .i64 x.size, .int .i64 x.child] 170)).trans (hb2.mono (by have := HBW.out.size; simp; omega))); clear hb2)
        | fail)
      go_roundw
      case rel => first | exact ⟨j + 1, y + z, by go_num, by go_num, by omega, by omega, Lib.hid (by rw [HT.out, HY.out]; omega), HB2.out⟩ | ((repeat apply Exists.intro); exact ⟨⟨j + 1, y + z, by go_num, by go_num, by omega, by omega, Lib.hid (by rw [HT.out, HY.out]; omega), HB2.out⟩, rfl⟩)
      case measure => simp [intOf]; omega
    · have z1 : decide ((j : Int) < (l.length : Int)) = false := decide_eq_false (by omega)
      have HV := Lib.hid (show N = (y : Int) by rw [HN.out, HY.out, List.take_of_length_le (by omega)]; rfl)
      clear hbw
      go_wp2_with fail
      go_ret
      exact tellsI_of HV.out HBW.out
end Go.Proofs.YtjbcbnemdhbhbaaGreatDoor
namespace Go.Proofs.YtjbcbnemdhbhbaaGreatDoor
open Go.RowKit
set_option maxRecDepth 100000
set_option linter.unusedVariables false
set_option linter.unusedSimpArgs false
theorem below_drewN {B : Nat} {w w' : World} (h : Below B w w') (n : Nat) : Below B w (w'.drewN n) := ⟨h.os, h.tape, h.output, h.size, h.block⟩
theorem five_after {w w2 : World} {t : TypeId} {v0 v1 v2 v3 v4 : Value} (hb : Below (w.alloc (.cells #[v0, v1, v2, v3, v4] t)).heap.size (w.alloc (.cells #[v0, v1, v2, v3, v4] t)) w2) :
    w2.cell? ⟨w.heap.size, 0, none⟩ = some v0 ∧ w2.cell? ⟨w.heap.size, 1, none⟩ = some v1 ∧ w2.cell? ⟨w.heap.size, 2, none⟩ = some v2 ∧ w2.cell? ⟨w.heap.size, 3, none⟩ = some v3 ∧ w2.cell? ⟨w.heap.size, 4, none⟩ = some v4 ∧
      w.heap.size < w2.heap.size ∧ Below w.heap.size w w2 ∧ Bk w2 w.heap.size t #[v0, v1, v2, v3, v4] := by
  have h := bk_below (Bk.new w t #[v0, v1, v2, v3, v4]) hb
  exact ⟨h.cell 0, h.cell 1, h.cell 2, h.cell 3, h.cell 4, h.lt, ((Below.refl _ w).alloc (Nat.le_refl _) _).trans (hb.mono (by simp)), h⟩
set_option maxHeartbeats 8000000 in
theorem right_yes (leaf : Bool) (r : Rw) (l : List Ce) (S : Nat → Prop) (w : World) (h : CRow w S r l) (hl : l.length ≤ 10000) (hr : Nd.right leaf l = true) :
    Calls Tryz.prog 268 #[.bool leaf, .slice r.A r.n r.c] w (TellsQ true w) := by
  obtain ⟨A, n, cap⟩ := r
  have hr0 := h
  obtain ⟨h1, h2, h3, -⟩ := hr0
  simp only at h1 h2 h3 ⊢
  subst h1
  have HR := Lib.hid h
  have hcm : cap ≤ 9223372036854775807 := by unfold maxLen at h3; omega
  unfold Nd.right at hr
  simp only [Bool.and_eq_true, Bool.or_eq_true] at hr
  obtain ⟨hfirst, hall, hrise⟩ := hr
  have HA := Lib.hid hall
  have HI := Lib.hid hrise
  clear h3 hall hrise
  cases leaf with
  | true =>
    clear hfirst h
    go_enter Tryz.func268, Tryz.ntmps268
    go_wp2_with fail
    go_loopw [24] (fun i wr => ∃ (j : Nat), i = .int .i64 j ∧ j ≤ l.length ∧ Below w.heap.size w wr) (fun i _ => l.length - (intOf i).toNat)
    case atStart => exact ⟨0, rfl, Nat.zero_le _, Below.refl _ _⟩
    case round =>
      obtain ⟨j, rfl, hj, hbw⟩ := hrel
      have HBW := Lib.hid hbw
      by_cases hlt : j < l.length
      · have z1 : decide ((j : Int) < (l.length : Int)) = true := decide_eq_true (by omega)
        obtain ⟨b, o, hA, hS, q0, q1, q2, q3, q4⟩ := (HR.out.below hbw).at j hlt
        simp only at hA
        subst hA
        have hbl := hS.2
        have HC := Lib.hid fun (W : World) => rightBranch_some l[j] W
        have HD := Lib.hid fun (W : World) => rightLeaf_yes l[j] W (by have := List.all_eq_true.1 HA.out _ (List.getElem_mem hlt); exact this)
        obtain ⟨x, hx⟩ : ∃ x, x = l[j] := ⟨_, rfl⟩
        have HX := Lib.hid hx
        rw [← hx] at HC HD q0 q1 q2 q3 q4
        clear hS hx hbw
        go_wp2_with fail
        (go_at_call 286)
        refine (HC.out _).mono ?_
        rintro e w2 ⟨hb2, q, rfl⟩
        obtain ⟨p0, p1, p2, p3, p4, l2, hn2, -⟩ := five_after hb2
        have HN2 := Lib.hid (HBW.out.trans (hn2.mono HBW.out.size))
        clear hn2
        go_wp2_with fail
        (go_at_call 287)
        refine (HD.out _).mono ?_
        rintro e w3 ⟨rfl, hb3⟩
        have hk3 := bk_below (five_after hb2).2.2.2.2.2.2.2 hb3
        have s0 : w3.cell? ⟨wr.heap.size, 0, none⟩ = some (.string x.key) := hk3.cell 0
        have l3 := hk3.lt
        have HN3 := Lib.hid (HN2.out.trans (hb3.mono HN2.out.size))
        clear hb2 hb3 hk3 p0 p1 p2 p3 p4 q0 q1 q2 q3 q4
        by_cases hj0 : j = 0
        · subst hj0
          have z2 : decide ((0 : Int) < ((0 : Nat) : Int)) = false := decide_eq_false (by omega)
          go_wp2_with fail
          go_quiet (fail)
          go_wp2_with fail
          go_roundw
          case rel => exact ⟨1, rfl, by omega, below_drewN HN3.out _⟩
          case measure => simp [intOf]; omega
        · obtain ⟨i, rfl⟩ : ∃ i, j = i + 1 := ⟨j - 1, by omega⟩
          obtain ⟨b', o', hA, hS, r0, -⟩ := (HR.out.below HN3.out).at i (by omega)
          simp only at hA
          obtain ⟨rfl, rfl⟩ : b = b' ∧ o = o' := by injection hA with hA; injection hA with h1 h2; exact ⟨h1, h2⟩
          have hbl3 := hS.2
          have hlt2 := Nd.rise_at HI.out i hlt
          rw [← HX.out] at hlt2
          obtain ⟨y, hy⟩ : ∃ y, y = l[i] := ⟨_, rfl⟩
          rw [← hy] at r0 hlt2
          have t1 : Op.bytesLess x.key.toList y.key.toList = false := Nd.lt_asymm hlt2
          have t2 := (Nd.lt_ne hlt2).2
          have hw1 : IntKind.i64.wrap (((i + 1 : Nat) : Int) - 1) = (i : Int) := by rw [show (((i + 1 : Nat) : Int) - 1) = (i : Int) by omega]; exact wrap_i64 i (by omega)
          have z2 : decide ((0 : Int) < ((i + 1 : Nat) : Int)) = true := decide_eq_true (by omega)
          clear hA hS hy hlt2
          go_wp2_with fail
          go_quiet (fail)
          go_wp2_with fail
          go_roundw
          case rel => exact ⟨i + 1 + 1, by go_num, by omega, below_drewN HN3.out _⟩
          case measure => simp [intOf]; omega
      · have z1 : decide ((j : Int) < (l.length : Int)) = false := decide_eq_false (by omega)
        clear hbw
        go_wp2_with fail
        go_ret
        exact tellsQ_of rfl HBW.out
  | false =>
    obtain ⟨c0, ls, rfl⟩ : ∃ c0 ls, l = c0 :: ls := by
      cases l with
      | nil => simp at hfirst
      | cons a b => exact ⟨a, b, rfl⟩
    have hk0 : c0.key = ⟨#[]⟩ := str_nil (by simpa using hfirst)
    have y1 : (((c0 :: ls).length : Int) == 0) = false := by rw [beq_eq_false_iff_ne, List.length_cons]; omega
    have y2 : ((c0 :: ls).length == 0) = false := by simp
    have y3 : decide ((0 : Int) < ((c0 :: ls).length : Int)) = true := decide_eq_true (by rw [List.length_cons]; omega)
    obtain ⟨b0, o0, hA0, hS0, e0, -⟩ := h.at 0 (by simp)
    simp only at hA0
    have e0' : w.cell? ⟨b0, o0, none⟩ = some (.string ⟨#[]⟩) := by have := e0; simp only [Nat.zero_mul, Nat.add_zero, List.getElem_cons_zero] at this; rw [this, hk0]
    subst hA0
    have hl0 := hS0.2
    obtain ⟨l, hl9⟩ : ∃ l, l = c0 :: ls := ⟨_, rfl⟩
    rw [← hl9] at HR HA HI hl h2 y1 y2 y3 ⊢
    have y4 : 0 < l.length := by rw [hl9]; simp
    clear hfirst hS0 e0 hk0 hl9 h
    go_enter Tryz.func268, Tryz.ntmps268
    go_wp2_with fail
    go_loopw [24] (fun i wr => ∃ (j : Nat), i = .int .i64 j ∧ j ≤ l.length ∧ Below w.heap.size w wr) (fun i _ => l.length - (intOf i).toNat)
    case atStart => exact ⟨0, rfl, Nat.zero_le _, Below.refl _ _⟩
    case round =>
      obtain ⟨j, rfl, hj, hbw⟩ := hrel
      have HBW := Lib.hid hbw
      by_cases hlt : j < l.length
      · have z1 : decide ((j : Int) < (l.length : Int)) = true := decide_eq_true (by omega)
        obtain ⟨b, o, hA, hS, q0, q1, q2, q3, q4⟩ := (HR.out.below hbw).at j hlt
        simp only at hA
        obtain ⟨rfl, rfl⟩ : b0 = b ∧ o0 = o := by injection hA with hA; injection hA with h1 h2; exact ⟨h1, h2⟩
        clear hA
        have hbl := hS.2
        have HC := Lib.hid fun (W : World) => rightBranch_yes l[j] W (by have := List.all_eq_true.1 HA.out _ (List.getElem_mem hlt); exact this)
        obtain ⟨x, hx⟩ : ∃ x, x = l[j] := ⟨_, rfl⟩
        have HX := Lib.hid hx
        rw [← hx] at HC q0 q1 q2 q3 q4
        clear hS hx hbw
        go_wp2_with fail
        (go_at_call 286)
        refine (HC.out _).mono ?_
        rintro e w3 ⟨rfl, hb3⟩
        obtain ⟨-, -, -, -, -, -, hn3, hk3⟩ := five_after hb3
        have s0 : w3.cell? ⟨wr.heap.size, 0, none⟩ = some (.string x.key) := hk3.cell 0
        have l3 := hk3.lt
        have HN3 := Lib.hid (HBW.out.trans (hn3.mono HBW.out.size))
        clear hb3 hk3 hn3 q0 q1 q2 q3 q4
        by_cases hj0 : j = 0
        · subst hj0
          have z2 : decide ((0 : Int) < ((0 : Nat) : Int)) = false := decide_eq_false (by omega)
          go_wp2_with fail
          go_quiet (fail)
          go_wp2_with fail
          go_roundw
          case rel => exact ⟨1, rfl, by omega, below_drewN HN3.out _⟩
          case measure => simp [intOf]; omega
        · obtain ⟨i, rfl⟩ : ∃ i, j = i + 1 := ⟨j - 1, by omega⟩
          obtain ⟨b', o', hA, hS, r0, -⟩ := (HR.out.below HN3.out).at i (by omega)
          simp only at hA
          obtain ⟨rfl, rfl⟩ : b0 = b' ∧ o0 = o' := by injection hA with hA; injection hA with h1 h2; exact ⟨h1, h2⟩
          have hbl3 := hS.2
          have hlt2 := Nd.rise_at HI.out i hlt
          rw [← HX.out] at hlt2
          obtain ⟨y, hy⟩ : ∃ y, y = l[i] := ⟨_, rfl⟩
          rw [← hy] at r0 hlt2
          have t1 : Op.bytesLess x.key.toList y.key.toList = false := Nd.lt_asymm hlt2
          have t2 := (Nd.lt_ne hlt2).2
          have hw1 : IntKind.i64.wrap (((i + 1 : Nat) : Int) - 1) = (i : Int) := by rw [show (((i + 1 : Nat) : Int) - 1) = (i : Int) by omega]; exact wrap_i64 i (by omega)
          have z2 : decide ((0 : Int) < ((i + 1 : Nat) : Int)) = true := decide_eq_true (by omega)
          clear hA hS hy hlt2
          go_wp2_with fail
          go_quiet (fail)
          go_wp2_with fail
          go_roundw
          case rel => exact ⟨i + 1 + 1, by go_num, by omega, below_drewN HN3.out _⟩
          case measure => simp [intOf]; omega
      · have z1 : decide ((j : Int) < (l.length : Int)) = false := decide_eq_false (by omega)
        clear hbw
        go_wp2_with fail
        go_ret
        exact tellsQ_of rfl HBW.out
end Go.Proofs.YtjbcbnemdhbhbaaGreatDoor
namespace Go.Proofs.YtjbcbnemdhbhbaaGreatDoor
open Go.PlainAid
structure DevS where
  sec : List ByteArray
  row : List (Nat × ByteArray)
  off : Bool
  fuse : Int
  steps : Int
  writes : Int
def waitsOf (row : List (Nat × ByteArray)) (i : Nat) : List ByteArray := (row.filter fun x => x.1 == i).map (·.2)
namespace DevS
def waits (d : DevS) (i : Nat) : List ByteArray := waitsOf d.row i
def isIn (d : DevS) (i : Int) : Bool := decide (0 ≤ i) && decide (i < (d.sec.length : Int))
def stepOk (d : DevS) : Bool := !d.off && !(d.fuse == 1)
def stepped (d : DevS) : DevS :=
  if d.off then d else { d with off := d.fuse == 1, fuse := max 0 (d.fuse - 1), steps := d.steps + 1 }
def write (d : DevS) (i : Int) (s : ByteArray) : DevS × Int :=
  if d.isIn i && s.size == 128 then
    if d.stepOk then ({ d.stepped with row := d.row ++ [(i.toNat, s)], writes := d.writes + 1 }, 0) else (d.stepped, 6)
  else (d, 1)
def latest (d : DevS) (i : Nat) : ByteArray := (d.waits i).getLastD (d.sec.getD i ByteArray.empty)
def read (d : DevS) (i : Int) : ByteArray × Int :=
  if d.isIn i then if d.off then (ByteArray.empty, 6) else (d.latest i.toNat, 0) else (ByteArray.empty, 1)
def synced (d : DevS) : DevS := { d with sec := (List.range d.sec.length).map d.latest, row := [] }
def sync (d : DevS) : DevS × Int := if d.stepOk then (d.stepped.synced, 0) else (d.stepped, 6)
def cut (d : DevS) : DevS × Int := if d.off then (d, 6) else ({ d with off := true, fuse := 0 }, 0)
def busy (d : DevS) (i : Nat) : Bool := !(d.waits i).isEmpty
def turn (d : DevS) (i : Nat) : Nat := ((List.range i).filter d.busy).length
def pick (picks : List Int) (k : Nat) : Nat := if picks = [] then 0 else (picks.getD (k % picks.length) 0).toNat
def kept (d : DevS) (picks : List Int) (i : Nat) : ByteArray :=
  if pick picks (d.turn i) % ((d.waits i).length + 1) = 0 then d.sec.getD i ByteArray.empty
  else (d.waits i).getD (pick picks (d.turn i) % ((d.waits i).length + 1) - 1) ByteArray.empty
def lasts (d : DevS) (i : Int) : ByteArray := if d.isIn i then d.sec.getD i.toNat ByteArray.empty else ByteArray.empty
def noughts : ByteArray := ⟨(List.replicate 128 (0 : UInt8)).toArray⟩
def new (n : Nat) : DevS := ⟨List.replicate n noughts, [], false, 0, 0, 0⟩
structure Ok (d : DevS) : Prop where
  some : 0 < d.sec.length
  most : d.sec.length ≤ 2048
  secs : ∀ s ∈ d.sec, s.size = 128
  rows : ∀ x ∈ d.row, x.1 < d.sec.length ∧ x.2.size = 128
  fuse0 : 0 ≤ d.fuse
  fuse1 : d.fuse ≤ 9223372036854775807
  rowW : (d.row.length : Int) ≤ d.writes
  writesS : d.writes ≤ d.steps
end DevS
theorem waitsOf_snoc (row : List (Nat × ByteArray)) (i j : Nat) (s : ByteArray) : waitsOf (row ++ [(i, s)]) j = if i = j then waitsOf row j ++ [s] else waitsOf row j := by
  unfold waitsOf
  rw [List.filter_append]
  by_cases h : i = j
  · rw [if_pos h]; simp [h]
  · rw [if_neg h]; simp [h]
theorem waitsOf_length_le (row : List (Nat × ByteArray)) (i : Nat) : (waitsOf row i).length ≤ row.length := by
  unfold waitsOf
  rw [List.length_map]
  exact List.length_filter_le _ _
theorem waitsOf_mem {row : List (Nat × ByteArray)} {i : Nat} {s : ByteArray} (h : s ∈ waitsOf row i) : (i, s) ∈ row := by
  unfold waitsOf at h
  obtain ⟨x, hx, rfl⟩ := List.mem_map.1 h
  obtain ⟨h1, h2⟩ := List.mem_filter.1 hx
  have : x.1 = i := by simpa using h2
  obtain ⟨a, b⟩ := x
  simp only at this
  subst this
  exact h1
namespace DevS
theorem isIn_iff {d : DevS} {i : Int} : d.isIn i = true ↔ 0 ≤ i ∧ i < (d.sec.length : Int) := by unfold isIn; simp
theorem waits_nil_of_ge {d : DevS} (h : d.Ok) {i : Nat} (hi : d.sec.length ≤ i) : d.waits i = [] := by
  cases hw : d.waits i with
  | nil => rfl
  | cons s l =>
    have := waitsOf_mem (row := d.row) (i := i) (s := s) (by unfold waits at hw; rw [hw]; exact List.mem_cons_self)
    have := (h.rows _ this).1
    simp only at this
    omega
theorem stepped_sec (d : DevS) : d.stepped.sec = d.sec := by unfold stepped; split <;> rfl
theorem stepped_row (d : DevS) : d.stepped.row = d.row := by unfold stepped; split <;> rfl
theorem stepped_writes (d : DevS) : d.stepped.writes = d.writes := by unfold stepped; split <;> rfl
theorem Ok.stepped {d : DevS} (h : d.Ok) : d.stepped.Ok := by
  unfold DevS.stepped
  split
  · exact h
  · exact ⟨h.some, h.most, h.secs, h.rows, Int.le_max_left _ _, by have := h.fuse1; show max 0 (d.fuse - 1) ≤ _; omega, h.rowW, by have := h.writesS; show d.writes ≤ d.steps + 1; omega⟩
theorem latest_mem {d : DevS} {i : Nat} (h : i < d.sec.length) : d.latest i ∈ d.waits i ∨ (d.waits i = [] ∧ d.latest i = d.sec[i]) := by
  unfold latest
  cases hw : d.waits i with
  | nil => exact .inr ⟨rfl, by simp [h]⟩
  | cons s l => exact .inl (by rw [List.getLastD_eq_getLast?, List.getLast?_eq_some_getLast (by simp), Option.getD_some]; exact List.getLast_mem _)
theorem latest_size {d : DevS} (h : d.Ok) {i : Nat} (hi : i < d.sec.length) : (d.latest i).size = 128 := by
  rcases latest_mem hi with hm | ⟨_, he⟩
  · exact (h.rows _ (waitsOf_mem hm)).2
  · rw [he]; exact h.secs _ (List.getElem_mem hi)
theorem Ok.synced {d : DevS} (h : d.Ok) : d.synced.Ok := by
  refine ⟨by simpa [DevS.synced] using h.some, by simpa [DevS.synced] using h.most, ?_, by simp [DevS.synced], h.fuse0, h.fuse1, ?_, h.writesS⟩
  · intro s hs
    simp only [DevS.synced, List.mem_map, List.mem_range] at hs
    obtain ⟨i, hi, rfl⟩ := hs
    exact latest_size h hi
  · have := h.rowW; simp only [DevS.synced, List.length_nil]; omega
theorem Ok.write {d : DevS} (h : d.Ok) (i : Int) (s : ByteArray) : (d.write i s).1.Ok := by
  unfold DevS.write
  split
  · rename_i hc
    obtain ⟨h1, h2⟩ : d.isIn i = true ∧ s.size = 128 := by simpa using hc
    rw [isIn_iff] at h1
    split
    · rename_i hk
      have hs := h.stepped
      refine ⟨hs.some, hs.most, hs.secs, ?_, hs.fuse0, hs.fuse1, ?_, ?_⟩
      · intro x hx
        simp only [stepped_sec]
        rcases List.mem_append.1 hx with hx | hx
        · exact h.rows x hx
        · obtain rfl : x = (i.toNat, s) := by simpa using hx
          exact ⟨by simp only; omega, h2⟩
      · have := h.rowW; simp only [List.length_append, List.length_singleton]; omega
      · have := h.writesS
        have hoff : d.off = false := by unfold stepOk at hk; simp at hk; exact hk.1
        simp only [DevS.stepped, hoff]
        show d.writes + 1 ≤ d.steps + 1
        omega
    · exact h.stepped
  · exact h
theorem Ok.sync {d : DevS} (h : d.Ok) : d.sync.1.Ok := by
  unfold DevS.sync
  split
  · exact h.stepped.synced
  · exact h.stepped
theorem Ok.cut {d : DevS} (h : d.Ok) : d.cut.1.Ok := by
  unfold DevS.cut
  split
  · exact h
  · exact ⟨h.some, h.most, h.secs, h.rows, Int.le_refl _, by show (0 : Int) ≤ _; omega, h.rowW, h.writesS⟩
theorem Ok.steps0 {d : DevS} (h : d.Ok) : 0 ≤ d.steps := by have := h.rowW; have := h.writesS; omega
theorem Ok.writes0 {d : DevS} (h : d.Ok) : 0 ≤ d.writes := by have := h.rowW; omega
theorem noughts_size : noughts.size = 128 := by simp [noughts, ByteArray.size]
theorem Ok.new {n : Nat} (h0 : 0 < n) (h1 : n ≤ 2048) : (new n).Ok := by
  refine ⟨by simpa [DevS.new] using h0, by simpa [DevS.new] using h1, ?_, by simp [DevS.new], Int.le_refl _, by show (0 : Int) ≤ _; omega, Int.le_refl _, Int.le_refl _⟩
  intro s hs
  obtain ⟨_, rfl⟩ := List.mem_replicate.1 (show s ∈ List.replicate n noughts from hs)
  exact noughts_size
end DevS
end Go.Proofs.YtjbcbnemdhbhbaaGreatDoor

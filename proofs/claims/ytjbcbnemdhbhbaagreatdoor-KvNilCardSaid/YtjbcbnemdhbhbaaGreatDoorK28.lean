import Derived.Test.YtjbcbnemdhbhbaaGreatDoorK22
import Derived.Test.YtjbcbnemdhbhbaaGreatDoorK27
import Derived.Test.YtjbcbnemdhbhbaaGreatDoorK4
import Derived.StringKeys
import Derived.Test.YtjbcbnemdhbhbaaGreatDoorK3
import Derived.Test.YtjbcbnemdhbhbaaGreatDoorK7
import Derived.Test.YtjbcbnemdhbhbaaGreatDoorK10
import Derived.Test.YtjbcbnemdhbhbaaGreatDoorK8
import Derived.Test.YtjbcbnemdhbhbaaGreatDoorK2
import Derived.LoopN
import Derived.Test.YtjbcbnemdhbhbaaGreatDoorK21
namespace Go.Proofs.YtjbcbnemdhbhbaaGreatDoor
open Go.RowKit
set_option maxRecDepth 100000
set_option linter.unusedVariables false
set_option linter.unusedSimpArgs false
def CloneF (l : List (Nat × Nat)) (w : World) (e : Ending) (w' : World) : Prop := Below w.heap.size w w' ∧ ∃ (A : Option Addr) (c : Nat), e = .returned (.slice A l.length c) ∧ FOwn w' w.heap.size (.slice A l.length c) l
theorem feql_none (W : World) : (binOp .eql 49 (.slice none 0 0) (.slice none 0 0)).run Tryz.prog W = .ok (.bool true) W := run_eql_nil_slice W 49 62 none 0 0 0 0 Tryz.underlying49
theorem FOwn.nil (w : World) (B : Nat) : FOwn w B (.slice none 0 0) [] := World.ownsRow_nil _ _ _ _
set_option maxHeartbeats 4000000 in
theorem fclone_any {w : World} {A : Option Addr} {c : Nat} {l : List (Nat × Nat)} (h : FRow w A l) (h1 : l.length ≤ c) (h2 : c ≤ maxLen) (hl : l.length ≤ 10000) (hc0 : A = none → c = 0) : Calls Tryz.prog 102 #[.slice A l.length c] w (CloneF l w) := by
  obtain ⟨i0, hi, iz0, iz1, iz2⟩ := info_parts info_free
  have hcm : c ≤ 9223372036854775807 := by unfold maxLen at h2; omega
  cases A with
  | none =>
    have hl0 : l = [] := by
      cases l with
      | nil => rfl
      | cons x t => obtain ⟨b, o, hA, -⟩ := h.at 0 (by simp); cases hA
    subst hl0
    obtain rfl := hc0 rfl
    have heq : ∀ W : World, (binOp .eql 49 (.slice none 0 0) (.slice none 0 0)).run Tryz.prog W = .ok (.bool true) W := fun W => feql_none W
    go_enter Tryz.func102, Tryz.ntmps102
    go_wp2_with fail
    go_ret
    exact ⟨Below.refl _ _, none, 0, rfl, FOwn.nil _ _⟩
  | some ad =>
    have hnil : ∀ W, Sem.run Tryz.prog (binOp BinOp.eql 49 (.slice (some ad) l.length c) (.slice none 0 0)) W = .ok (.bool false) W := fun W => by kernel_rfl
    have HLIT := Lib.hid (show (w.alloc (.cells #[] 62)).ownsRow w.heap.size 62 2 (.slice (some ⟨w.heap.size, 0, none⟩) 0 0) 0 [] from World.ownsRow_lit w #[] 0 (Nat.le_refl _) (Nat.zero_le _) rfl)
    have HNEW := Lib.hid (show ∀ a, some ad = some a → ∀ (j : Nat) (u : Value), (flatF l)[j]? = some u → (w.alloc (.cells #[] 62)).cell? (a.add j) = some u from fun a ha j u hu => by
      obtain ⟨b, o, hA, hb, hc⟩ := h j u hu
      rw [ha] at hA
      injection hA with hA
      subst hA
      rw [addr_add]
      exact (((Below.refl w.heap.size w).alloc (Nat.le_refl _) _).cell (p := ⟨b, o + j, none⟩) hb).trans hc)
    obtain ⟨n, hn⟩ : ∃ n, n = l.length := ⟨_, rfl⟩
    have HN := Lib.hid hn
    rw [← hn] at h1 hl hnil ⊢
    clear h hn
    go_enter Tryz.func102, Tryz.ntmps102
    go_wp2_with (at_builtin; refine wpList_append_k _ rfl (.tmp 5) (.tmp 6) 49 rfl w.heap.size 62 i0 _ 2 16 Tryz.underlying49 hi iz0 iz1 iz2 rfl (by omega) (.slice (some ⟨w.heap.size, 0, none⟩) 0 0) 0 [] rfl HLIT.out (some ad) n c (flatF l) rfl (by rw [HN.out]; exact flatF_len l) (fun hh => by cases hh) HNEW.out (flatF_one l) (by unfold maxLen; omega) (by omega) (by simp) ?_; intro A3 c3 w3 hown3 hgrow3)
    have HO3 := Lib.hid (show FOwn w3 w.heap.size (.slice A3 n c3) l by
      unfold FOwn
      rw [Nat.zero_add, List.nil_append] at hown3
      rw [← HN.out]
      exact hown3)
    have HN3 := Lib.hid (((Off.of_below ((Below.refl _ w).alloc (Nat.le_refl _) (.cells #[] 62)) []).grown hgrow3 (fun g hg => .inr (HLIT.out.lt g hg).1)).below (Nat.le_refl _) (by simp))
    clear hown3 hgrow3
    have hz : (0 : Nat) + n = n := Nat.zero_add n
    go_wp2_with fail
    go_ret
    exact ⟨HN3.out, A3, c3, by rw [← HN.out]; exact congrArg (fun k => Ending.returned (.slice A3 k c3)) (by omega), by rw [← HN.out]; exact HO3.out⟩
set_option maxHeartbeats 4000000 in
theorem fall_any {w : World} {f : Nat} {S : List Nat} {l : List (Nat × Nat)} (h : FL w f S l) (hl : l.length ≤ 10000) : Calls Tryz.prog 61 #[.pointer (some ⟨f, 0, none⟩)] w (CloneF l w) := by
  obtain ⟨⟨A, c, h1, h2, h3, h4, h5, h8⟩, h6, h7⟩ := h
  have c0 := (h1.cell 0).trans (flCells_zero A c l)
  have lf := h1.lt
  have HC := Lib.hid (fclone_any h2 h3 h4 hl h8)
  clear h1 h2 h5 h6 h7 h8 hl h3 h4
  go_enter Tryz.func61, Tryz.ntmps61
  go_wp2_with fail
  refine HC.out.mono ?_
  rintro e w1 ⟨hb, A3, c3, rfl, ho⟩
  have HB := Lib.hid hb
  have HO := Lib.hid ho
  clear hb ho
  go_wp2_with fail
  go_ret
  exact ⟨HB.out, A3, c3, rfl, HO.out⟩
def SearchF (n : Nat) (w : World) (e : Ending) (w' : World) : Prop := ∃ q : Bool, e = .returned (.tuple #[.int .i64 n, .bool q]) ∧ Below w.heap.size w w'
set_option maxHeartbeats 16000000 in
theorem fsearch_any {w : World} {A : Option Addr} {c : Nat} {l : List (Nat × Nat)} (h : FRow w A l) (hs : Fr.Sorted l) (hl : l.length ≤ 1000) (x : Nat × Nat) :
    Calls Tryz.prog 215 #[.slice A l.length c, .agg #[.int .i64 x.1, .int .i64 x.2], .func (.func 216) #[] #[]] w (SearchF (Fr.spot l x) w) := by
  have HO := Lib.hid fun (a b : Nat × Nat) (W : World) => forder_any a b W
  have HP := Lib.hid (Fr.spot_le l x)
  have HP1 := Lib.hid (Fr.spot_below l x)
  have HP2 := Lib.hid (fun i => Fr.spot_above hs x i)
  have HF := Lib.hid h
  have HT : Hid (∀ W, Below (w.heap.size + 1) (w.alloc (.cells #[.int .i64 x.1, .int .i64 x.2] 62)) W → W.cell? ⟨w.heap.size, 0, none⟩ = some (.int .i64 x.1) ∧ W.cell? ⟨w.heap.size, 1, none⟩ = some (.int .i64 x.2) ∧ FRow W A l) := fun W hW => by
    have h1 := bk_below (Bk.new w 62 #[.int .i64 x.1, .int .i64 x.2]) (w' := W) (by simpa using hW)
    exact ⟨h1.cell 0, h1.cell 1, (h.below ((Below.refl _ w).alloc (Nat.le_refl _) _)).below (by simpa using hW)⟩
  obtain ⟨n, hn⟩ : ∃ n, n = l.length := ⟨_, rfl⟩
  obtain ⟨p, hp⟩ : ∃ p, p = Fr.spot l x := ⟨_, rfl⟩
  have HN := Lib.hid hn
  rw [← hn] at hl HP ⊢
  rw [← hp] at HP HP1 HP2 ⊢
  clear h hs hn hp
  go_enter Tryz.func215, Tryz.ntmps215
  go_wp2_with fail
  go_loopw [9, 10] (fun i j wr => ∃ (a b : Nat), i = .int .i64 a ∧ j = .int .i64 b ∧ a ≤ p ∧ p ≤ b ∧ b ≤ n ∧ Hid (Below (w.heap.size + 1) (w.alloc (.cells #[.int .i64 x.1, .int .i64 x.2] 62)) wr)) (fun i j _ => (intOf j).toNat - (intOf i).toNat)
  case atStart => exact ⟨0, n, rfl, rfl, Nat.zero_le _, HP.out, Nat.le_refl _, Lib.hid (Below.refl _ _)⟩
  case round =>
    obtain ⟨a, b, rfl, rfl, ha, hb, hbn, HB⟩ := hrel
    by_cases hlt : a < b
    · have hm1 : a ≤ (a + b) / 2 := by omega
      have hm2 : (a + b) / 2 < b := by omega
      have z1 : decide ((a : Int) < (b : Int)) = true := decide_eq_true (by omega)
      have z2 : decide (a < b) = true := decide_eq_true hlt
      have hmn : (a + b) / 2 < n := by omega
      have hi0 : (0 : Int) ≤ ((a : Int) + (b : Int)) / 2 := by omega
      have hi1 : ((a : Int) + (b : Int)) / 2 < (n : Int) := by omega
      have hi2 : (((a : Int) + (b : Int)) / 2).toNat = (a + b) / 2 := by omega
      obtain ⟨bb, o, hA, lb, q0, q1⟩ := (HT.out wr HB.out).2.2.at ((a + b) / 2) (by rw [← HN.out]; omega)
      obtain ⟨y, hy⟩ : ∃ y, y = l[(a + b) / 2]'(by rw [← HN.out]; omega) := ⟨_, rfl⟩
      have HY := Lib.hid hy
      rw [← hy] at q0 q1
      have HKS := Lib.hid (show ∀ W, Below wr.heap.size wr W → W.cell? ⟨w.heap.size, 0, none⟩ = some (.int .i64 x.1) ∧ W.cell? ⟨w.heap.size, 1, none⟩ = some (.int .i64 x.2) ∧ W.cell? ⟨bb, o + (a + b) / 2 * 2, none⟩ = some (.int .i64 y.1) ∧ W.cell? ⟨bb, o + (a + b) / 2 * 2 + 1, none⟩ = some (.int .i64 y.2) from fun W hW => by
        have h1 := HT.out W (HB.out.trans (hW.mono (by have := HB.out.size; simpa using this)))
        exact ⟨h1.1, h1.2.1, (hW.cell (p := ⟨bb, o + (a + b) / 2 * 2, none⟩) lb).trans q0, (hW.cell (p := ⟨bb, o + (a + b) / 2 * 2 + 1, none⟩) lb).trans q1⟩)
      have hcl := Fr.cmp_lt y x
      have hup : Fr.lt y x = true → (a + b) / 2 < p := fun hq => by
        by_cases hh : (a + b) / 2 < p
        · exact hh
        · have := HP2.out ((a + b) / 2) (by omega) (by rw [← HN.out]; omega)
          rw [← HY.out, hq] at this
          cases this
      have hdn : Fr.lt y x = false → p ≤ (a + b) / 2 := fun hq => by
        by_cases hh : (a + b) / 2 < p
        · have := HP1.out ((a + b) / 2) hh (by rw [← HN.out]; omega)
          rw [← HY.out, hq] at this
          cases this
        · omega
      clear hy q0 q1
      subst hA
      cases hq : Fr.lt y x
      all_goals
       rw [hq] at hcl
       have hcl2 := hcl.symm
       have HU := Lib.hid (show (Fr.lt y x = true → (a + b) / 2 < p) ∧ (Fr.lt y x = false → p ≤ (a + b) / 2) from ⟨hup, hdn⟩)
       have HQ := Lib.hid hq
       clear hcl hup hdn hq
       go_wp2_with fail
       go_region_held3 (fun W => W.cell? ⟨w.heap.size, 0, none⟩ = some (.int .i64 x.1) ∧ W.cell? ⟨w.heap.size, 1, none⟩ = some (.int .i64 x.2) ∧ W.cell? ⟨bb, o + (a + b) / 2 * 2, none⟩ = some (.int .i64 y.1) ∧ W.cell? ⟨bb, o + (a + b) / 2 * 2 + 1, none⟩ = some (.int .i64 y.2)) (first | (refine HKS.out _ ?_; with_reducible (first | exact (Below.refl _ _).drew | exact HBR.out)) | fail) (first
        | (go_at_call 216; (with_reducible refine (HO.out _ _ _).mono ?_); rintro e w1 ⟨rfl, hb1⟩; have HBR := Lib.hid (show Below wr.heap.size wr w1 from (Below.refl _ _).drew.trans hb1); clear hb1))
       all_goals
         go_wp2_with fail
         go_roundw
         case rel => first
           | exact ⟨(a + b) / 2 + 1, b, by go_num, rfl, (by have := HU.out.1 HQ.out; omega), hb, hbn, Lib.hid (HB.out.trans (HBR.out.mono (by have := HB.out.size; simpa using this)))⟩
           | exact ⟨a, (a + b) / 2, rfl, by go_num, ha, (by have := HU.out.2 HQ.out; omega), by omega, Lib.hid (HB.out.trans (HBR.out.mono (by have := HB.out.size; simpa using this)))⟩
         case measure => simp [intOf]; omega
    · obtain rfl : a = p := by omega
      have z1 : decide ((a : Int) < (b : Int)) = false := decide_eq_false (by omega)
      have z2 : decide (a < b) = false := decide_eq_false hlt
      have hbs := HB.out.size
      simp at hbs
      by_cases han : a < n
      · have z3 : decide ((a : Int) < (n : Int)) = true := decide_eq_true (by omega)
        have z4 : decide (a < n) = true := decide_eq_true han
        obtain ⟨bb, o, hA, lb, q0, q1⟩ := (HT.out wr HB.out).2.2.at a (by rw [← HN.out]; exact han)
        obtain ⟨y, hy⟩ : ∃ y, y = l[a]'(by rw [← HN.out]; exact han) := ⟨_, rfl⟩
        rw [← hy] at q0 q1
        have HKS := Lib.hid (show ∀ W, Below wr.heap.size wr W → W.cell? ⟨w.heap.size, 0, none⟩ = some (.int .i64 x.1) ∧ W.cell? ⟨w.heap.size, 1, none⟩ = some (.int .i64 x.2) ∧ W.cell? ⟨bb, o + a * 2, none⟩ = some (.int .i64 y.1) ∧ W.cell? ⟨bb, o + a * 2 + 1, none⟩ = some (.int .i64 y.2) from fun W hW => by
          have h1 := HT.out W (HB.out.trans (hW.mono (by have := HB.out.size; simpa using this)))
          exact ⟨h1.1, h1.2.1, (hW.cell (p := ⟨bb, o + a * 2, none⟩) lb).trans q0, (hW.cell (p := ⟨bb, o + a * 2 + 1, none⟩) lb).trans q1⟩)
        clear hy q0 q1
        subst hA
        go_wp2_with fail
        go_region_held3 (fun W => W.cell? ⟨w.heap.size, 0, none⟩ = some (.int .i64 x.1) ∧ W.cell? ⟨w.heap.size, 1, none⟩ = some (.int .i64 x.2) ∧ W.cell? ⟨bb, o + a * 2, none⟩ = some (.int .i64 y.1) ∧ W.cell? ⟨bb, o + a * 2 + 1, none⟩ = some (.int .i64 y.2)) (first | (refine HKS.out _ ?_; with_reducible (first | exact (Below.refl _ _).drew | exact HBR.out)) | fail) (first
          | (go_at_call 216; (with_reducible refine (HO.out _ _ _).mono ?_); rintro e w1 ⟨rfl, hb1⟩; have HBR := Lib.hid (show Below wr.heap.size wr w1 from (Below.refl _ _).drew.trans hb1); clear hb1))
        all_goals
          go_wp2_with fail
          go_ret2
          exact ⟨_, rfl, ((Below.refl _ w).alloc (Nat.le_refl _) _).trans ((HB.out.mono (by omega)).trans (HBR.out.mono (by omega)))⟩
      · have z3 : decide ((a : Int) < (n : Int)) = false := decide_eq_false (by omega)
        have z4 : decide (a < n) = false := decide_eq_false han
        go_wp2_with fail
        go_quiet (fail)
        go_wp2_with fail
        go_ret2
        exact ⟨_, rfl, below_drewN (((Below.refl _ w).alloc (Nat.le_refl _) _).trans (HB.out.mono (by omega))) _⟩
end Go.Proofs.YtjbcbnemdhbhbaaGreatDoor
namespace Go.Proofs.YtjbcbnemdhbhbaaGreatDoor
open Go.Maps (Keyed)
section
variable {P : Program} {k : TypeId} {w : World} {m nn : Nat}
theorem vR_inv {v : Value} {d : DataW Value} {ps : List MemPlace} (h : vR v = some (d, ps)) : d = .held v := by
  unfold vR at h
  injection h with h
  injection h with h _
  exact h.symm
theorem Off.turned {w' : World} (h : w.mapTurned w' m) : Off [m] w w' := by
  obtain ⟨es, clock, es', clock', hb, rfl⟩ := h
  refine ⟨rfl, rfl, rfl, ?_, fun i hi hn => ?_⟩
  · simp [ChangeMaps.setBlock]
  · exact ChangeMaps.heap_setBlock_other hb _ (by simpa using hn)
theorem IMap.look2 {V : Int → Option Value} {t e : TypeId} {z : Value} (h : IMap P k w m nn V) (hk : P.underlying k = some (.int .i64)) (ht : P.underlying t = some (.map k e)) (hz : (zeroValue e).run P w = .ok z w) {i : Int} (hi : (Lit.int .i64 i).wf = true) :
    (Instr.lookup t (.map (some m)) (.int .i64 i) true).run P w = .ok (.tuple #[(V i).getD z, .bool (V i).isSome]) w := by
  obtain ⟨D, hown, ha⟩ := h
  obtain ⟨v, ps, hrun, hv⟩ := hown.look_ok (Maps.int_keyed hk) ht hz (zd := .held z) (zp := []) rfl (Maps.keyOf_int_mk hk hi)
  have h1 := vR_inv hv
  rw [hrun, has_of_agrees ha]
  cases hV : V i with
  | none =>
    have h2 : Maps.has D (.int .i64 i) = false := by rw [has_of_agrees ha, hV]; rfl
    rw [Maps.atKey_of_not_has h2] at h1
    injection h1 with h1
    subst h1
    rfl
  | some u =>
    have h2 := (ha.1 i u hV).2.2 (.held z)
    rw [h2] at h1
    injection h1 with h1
    subst h1
    rfl
theorem IMap.drop {V : Int → Option Value} {t e ty : TypeId} (h : IMap P k w m nn V) (hk : P.underlying k = some (.int .i64)) (ht : P.underlying t = some (.map k e)) {i : Int} (hi : (Lit.int .i64 i).wf = true) :
    ∃ w', (Builtin.delete_ #[t, k] ty #[.map (some m), .int .i64 i]).run P w = .ok (.tuple #[]) w' ∧ IMap P k w' m nn (fun j => if j = i then none else V j) ∧ Off [m] w w' := by
  obtain ⟨D, hown, ha⟩ := h
  obtain ⟨w', hrun, hown', ht'⟩ := hown.drop (Maps.int_keyed hk) ht (Maps.keyOf_int_mk hk hi) ty
  refine ⟨w', hrun, ⟨_, hown', ?_, ?_⟩, Off.turned ht'⟩
  · intro j u hj
    have hj : (if j = i then none else V j) = some u := hj
    by_cases e : j = i
    · rw [if_pos e] at hj; cases hj
    · rw [if_neg e] at hj
      obtain ⟨h1, h2, h3⟩ := ha.1 j u hj
      have hne : Lit.int .i64 j ≠ Lit.int .i64 i := fun he => e (by injection he)
      exact ⟨h1, by rw [Maps.has_del_other hne]; exact h2, fun z => by rw [Maps.atKey_del_other hne]; exact h3 z⟩
  · intro kl hkl
    by_cases e : kl = Lit.int .i64 i
    · subst e; rw [Maps.has_del_same] at hkl; cases hkl
    · rw [Maps.has_del_other e] at hkl
      obtain ⟨j, u, hj, rfl⟩ := ha.2 kl hkl
      refine ⟨j, u, ?_, rfl⟩
      show (if j = i then none else V j) = some u
      rw [if_neg (fun he => e (by rw [he]))]
      exact hj
def AgreesS (D : DataW Value) (V : ByteArray → Option Value) : Prop :=
  (∀ s v, V s = some v → s.size ≤ maxLen ∧ Maps.has D (.string s.data.toList) = true ∧ ∀ z, D.atKey (.string s.data.toList) z = .held v) ∧ (∀ kl, Maps.has D kl = true → ∃ s v, V s = some v ∧ kl = .string s.data.toList)
def SMap (P : Program) (k : TypeId) (w : World) (m nn : Nat) (V : ByteArray → Option Value) : Prop := ∃ D : DataW Value, w.ownsMap P k vR m nn D ∧ AgreesS D V
variable {V : ByteArray → Option Value}
theorem lit_str {a b : ByteArray} (h : Lit.string a.data.toList = Lit.string b.data.toList) : a = b := by
  injection h with h
  obtain ⟨⟨a⟩⟩ := a
  obtain ⟨⟨b⟩⟩ := b
  simp only at h
  subst h
  rfl
theorem SMap.lt (h : SMap P k w m nn V) : m < w.heap.size := by obtain ⟨D, h, _⟩ := h; exact h.lt
theorem SMap.of_heap {w' : World} (h : SMap P k w m nn V) (hh : w'.heap[m]? = w.heap[m]?) : SMap P k w' m nn V := by
  obtain ⟨D, ⟨es, clock, hb, r⟩, ha⟩ := h
  exact ⟨D, ⟨es, clock, hh.trans hb, r⟩, ha⟩
theorem SMap.off {S : List Nat} {w' : World} (h : SMap P k w m nn V) (ho : Off S w w') (hm : m ∉ S) : SMap P k w' m nn V := h.of_heap (ho.block m h.lt hm)
theorem SMap.mono (h : SMap P k w m nn V) {n' : Nat} (hn : nn ≤ n') : SMap P k w m n' V := by
  obtain ⟨D, h, ha⟩ := h
  exact ⟨D, h.mono hn, ha⟩
theorem SMap.made (w : World) (P : Program) (k : TypeId) : SMap P k (w.alloc (.map #[] 0)) w.heap.size 0 (fun _ => none) :=
  ⟨.map [], World.ownsMap_made w P k vR, fun i v h => (by cases h), fun kl h => (by simp [Maps.has] at h)⟩
theorem SMap.ne_bk {g : Nat} {t : TypeId} {cs : Array Value} (h : SMap P k w m nn V) (hb : Bk w g t cs) : g ≠ m := by
  rintro rfl
  obtain ⟨D, ⟨es, clock, hh, _⟩, _⟩ := h
  unfold Bk at hb
  rw [hb] at hh
  cases hh
theorem has_of_agreesS {D : DataW Value} (ha : AgreesS D V) (s : ByteArray) : Maps.has D (.string s.data.toList) = (V s).isSome := by
  cases hv : V s with
  | some v => rw [(ha.1 s v hv).2.1]; rfl
  | none =>
    cases hh : Maps.has D (.string s.data.toList) with
    | false => rfl
    | true =>
      obtain ⟨j, v, hj, he⟩ := ha.2 _ hh
      have := lit_str he
      subst this
      rw [hv] at hj
      cases hj
theorem SMap.look2 {t e : TypeId} {z : Value} (h : SMap P k w m nn V) (hk : P.underlying k = some .string) (ht : P.underlying t = some (.map k e)) (hz : (zeroValue e).run P w = .ok z w) {s : ByteArray} (hs : s.size ≤ maxLen) :
    (Instr.lookup t (.map (some m)) (.string s) true).run P w = .ok (.tuple #[(V s).getD z, .bool (V s).isSome]) w := by
  obtain ⟨D, hown, ha⟩ := h
  obtain ⟨v, ps, hrun, hv⟩ := hown.look_ok (Maps.string_keyed hk) ht hz (zd := .held z) (zp := []) rfl (WideMaps.keyOf_string_mk hk hs)
  have h1 := vR_inv hv
  rw [hrun, has_of_agreesS ha]
  cases hV : V s with
  | none =>
    have h2 : Maps.has D (.string s.data.toList) = false := by rw [has_of_agreesS ha, hV]; rfl
    rw [Maps.atKey_of_not_has h2] at h1
    injection h1 with h1
    subst h1
    rfl
  | some u =>
    have h2 := (ha.1 s u hV).2.2 (.held z)
    rw [h2] at h1
    injection h1 with h1
    subst h1
    rfl
theorem SMap.look {t e : TypeId} {z : Value} (h : SMap P k w m nn V) (hk : P.underlying k = some .string) (ht : P.underlying t = some (.map k e)) (hz : (zeroValue e).run P w = .ok z w) {s : ByteArray} (hs : s.size ≤ maxLen) :
    (Instr.lookup t (.map (some m)) (.string s) false).run P w = .ok ((V s).getD z) w := by
  obtain ⟨D, ⟨es, clock, hb, F, hss, rfl⟩, ha⟩ := h
  have hkey := WideMaps.keyOf_string_mk (P := P) hk hs
  rcases Maps.fit_look false (Maps.string_keyed hk) ht hz hb F hkey with ⟨hrun, _, hat⟩ | ⟨e0, y, _, _, hrun, hRv, hat, _⟩
  · cases hv : V s with
    | none => simpa using hrun
    | some v =>
      have := (ha.1 s v hv).2.2 .nil
      rw [hat .nil] at this
      cases this
  · cases hv : V s with
    | none =>
      exfalso
      have h1 := Maps.has_true_of_atKey hat
      obtain ⟨j, v, hj, he⟩ := ha.2 _ h1
      have := lit_str he
      subst this
      rw [hv] at hj
      cases hj
    | some v =>
      have h1 := (ha.1 s v hv).2.2 .nil
      rw [hat .nil] at h1
      have hRv := vR_inv hRv
      rw [h1] at hRv
      injection hRv with hRv
      subst hRv
      simpa using hrun
theorem SMap.update {t e : TypeId} (h : SMap P k w m nn V) (hk : P.underlying k = some .string) (ht : P.underlying t = some (.map k e)) (hn : nn < maxLen) {s : ByteArray} (hs : s.size ≤ maxLen) (v : Value) :
    ∃ w', (Instr.mapUpdate t (.map (some m)) (.string s) v).run P w = .ok () w' ∧ SMap P k w' m (nn + 1) (fun j => if j = s then some v else V j) ∧ w.grownBy w' (some m) := by
  obtain ⟨D, hown, ha⟩ := h
  have hkey := WideMaps.keyOf_string_mk (P := P) hk hs
  have hmap := hown.isMap
  have hkl : WideAt.IsKeyLit (Lit.string s.data.toList) := (Maps.string_keyed hk).key hkey
  obtain ⟨w', hrun, hown', hg⟩ := hown.update (Maps.string_keyed hk) ht hn (val := v) hkey rfl
  refine ⟨w', hrun, ⟨_, hown', ?_, ?_⟩, hg⟩
  · intro j u hj
    have hj : (if j = s then some v else V j) = some u := hj
    by_cases hji : j = s
    · subst hji
      rw [if_pos rfl] at hj
      injection hj with hj
      subst hj
      exact ⟨hs, Maps.has_put_same hmap hkl _, fun z => Maps.atKey_put_same hmap hkl _ z⟩
    · rw [if_neg hji] at hj
      obtain ⟨h1, h2, h3⟩ := ha.1 j u hj
      have hne : Lit.string j.data.toList ≠ Lit.string s.data.toList := fun e => hji (lit_str e)
      exact ⟨h1, by rw [Maps.has_put_other hne]; exact h2, fun z => by rw [Maps.atKey_put_other hne]; exact h3 z⟩
  · intro kl hkl'
    by_cases hki : kl = Lit.string s.data.toList
    · exact ⟨s, v, if_pos rfl, hki⟩
    · rw [Maps.has_put_other hki] at hkl'
      obtain ⟨j, u, hj, rfl⟩ := ha.2 kl hkl'
      refine ⟨j, u, ?_, rfl⟩
      have hji : j ≠ s := fun e => hki (by rw [e])
      show (if j = s then some v else V j) = some u
      rw [if_neg hji]
      exact hj
end
end Go.Proofs.YtjbcbnemdhbhbaaGreatDoor
namespace Go.Proofs.YtjbcbnemdhbhbaaGreatDoor
open Go.PlainAid
set_option linter.unusedVariables false
namespace DevS
def four (D : DevS) (no : Nat) : ByteArray := ⟨((D.latest (4 * no)).data.toList ++ (D.latest (4 * no + 1)).data.toList ++ (D.latest (4 * no + 2)).data.toList ++ (D.latest (4 * no + 3)).data.toList).toArray⟩
structure Page (D : DevS) (no : Nat) (k t : Int) (b : ByteArray) : Prop where
  fits : 4 * no + 4 ≤ D.sec.length
  bytes : IsPage (D.four no) k no t b
theorem read_on {D : DevS} (ho : D.off = false) {i : Nat} (hi : i < D.sec.length) : D.read (i : Int) = (D.latest i, 0) := by
  unfold DevS.read
  have h1 : D.isIn (i : Int) = true := DevS.isIn_iff.2 ⟨by omega, by omega⟩
  rw [h1, ho]
  simp
theorem four_congr {D E : DevS} {no : Nat} (h : ∀ i, 4 * no ≤ i → i < 4 * no + 4 → E.latest i = D.latest i) : E.four no = D.four no := by
  unfold four
  rw [h _ (by omega) (by omega), h _ (by omega) (by omega), h _ (by omega) (by omega), h _ (by omega) (by omega)]
theorem write_ok {D : DevS} {i : Nat} {s : ByteArray} (hi : i < D.sec.length) (hs : s.size = 128) : D.write (i : Int) s = if D.stepOk then ({ D.stepped with row := D.row ++ [(i, s)], writes := D.writes + 1 }, 0) else (D.stepped, 6) := by
  unfold DevS.write
  have h1 : D.isIn (i : Int) = true := DevS.isIn_iff.2 ⟨by omega, by omega⟩
  rw [h1, hs]
  simp
structure Wrote (D D' : DevS) (A : Nat → Prop) : Prop where
  sec : D'.sec = D.sec
  waits : ∀ j, ¬ A j → D'.waits j = D.waits j
  steps : D.steps ≤ D'.steps
theorem Wrote.refl (D : DevS) (A : Nat → Prop) : Wrote D D A := ⟨rfl, fun _ _ => rfl, Int.le_refl _⟩
theorem Wrote.trans {D D' D'' : DevS} {A : Nat → Prop} (h : Wrote D D' A) (k : Wrote D' D'' A) : Wrote D D'' A :=
  ⟨k.sec.trans h.sec, fun j hj => (k.waits j hj).trans (h.waits j hj), Int.le_trans h.steps k.steps⟩
theorem Wrote.mono {D D' : DevS} {A B : Nat → Prop} (h : Wrote D D' A) (hAB : ∀ j, A j → B j) : Wrote D D' B := ⟨h.sec, fun j hj => h.waits j fun ha => hj (hAB j ha), h.steps⟩
theorem Wrote.latest {D D' : DevS} {A : Nat → Prop} (h : Wrote D D' A) {j : Nat} (hj : ¬ A j) : D'.latest j = D.latest j := by
  unfold DevS.latest
  rw [h.sec, h.waits j hj]
theorem stepped_le (D : DevS) : D.steps ≤ D.stepped.steps ∧ D.stepped.steps ≤ D.steps + 1 := by
  unfold stepped
  split
  · omega
  · show D.steps ≤ D.steps + 1 ∧ D.steps + 1 ≤ D.steps + 1
    omega
theorem stepped_wrote (D : DevS) (A : Nat → Prop) : Wrote D D.stepped A := ⟨stepped_sec D, fun j _ => by unfold waits; rw [stepped_row], (stepped_le D).1⟩
theorem write_wrote {D : DevS} {i : Nat} {s : ByteArray} (hi : i < D.sec.length) (hs : s.size = 128) : Wrote D (D.write (i : Int) s).1 (· = i) ∧ (D.write (i : Int) s).1.steps ≤ D.steps + 1 ∧
    (((D.write (i : Int) s).2 = 0 ∧ (D.write (i : Int) s).1.latest i = s ∧ (D.write (i : Int) s).1.off = false) ∨ ((D.write (i : Int) s).2 = 6 ∧ (D.write (i : Int) s).1.off = true)) := by
  rw [write_ok hi hs]
  by_cases h : D.stepOk = true
  · rw [if_pos h]
    have h2 := (stepped_le D)
    refine ⟨⟨stepped_sec D, fun j hj => ?_, h2.1⟩, h2.2, .inl ⟨rfl, ?_, ?_⟩⟩
    · show waitsOf (D.row ++ [(i, s)]) j = waitsOf D.row j
      rw [waitsOf_snoc, if_neg (fun e => hj e.symm)]
    · show (waitsOf (D.row ++ [(i, s)]) i).getLastD _ = s
      rw [waitsOf_snoc, if_pos rfl]
      simp
    · unfold stepOk at h
      simp at h
      show D.stepped.off = false
      unfold stepped
      simp [h.1, h.2]
  · rw [if_neg h]
    refine ⟨stepped_wrote D _, (stepped_le D).2, .inr ⟨rfl, ?_⟩⟩
    unfold stepOk at h
    unfold stepped
    cases ho : D.off with
    | true => simp [ho]
    | false => simp [ho] at h ⊢; exact h
def writeL (D : DevS) : Nat → List ByteArray → DevS × Int
  | _, [] => (D, 0)
  | i, s :: l => if (D.write (i : Int) s).2 = 0 then writeL (D.write (i : Int) s).1 (i + 1) l else ((D.write (i : Int) s).1, (D.write (i : Int) s).2)
theorem writeL_wrote : ∀ (l : List ByteArray) (D : DevS) (i : Nat), i + l.length ≤ D.sec.length → (∀ s ∈ l, s.size = 128) →
    Wrote D (D.writeL i l).1 (fun j => i ≤ j ∧ j < i + l.length) ∧ (D.writeL i l).1.steps ≤ D.steps + l.length ∧
    (((D.writeL i l).2 = 0 ∧ (∀ (j : Nat) (x : ByteArray), l[j]? = some x → (D.writeL i l).1.latest (i + j) = x) ∧ (D.off = false → (D.writeL i l).1.off = false)) ∨ ((D.writeL i l).2 = 6 ∧ (D.writeL i l).1.off = true))
  | [], D, i, _, _ => ⟨Wrote.refl _ _, by simp [writeL], .inl ⟨rfl, fun j x h => by simp at h, fun h => h⟩⟩
  | s :: l, D, i, hi, hs => by
    rw [List.length_cons] at hi ⊢
    obtain ⟨h1, h2, h3⟩ := write_wrote (D := D) (i := i) (s := s) (by omega) (hs s (by simp))
    rcases h3 with ⟨h3, h4, h5⟩ | ⟨h3, h4⟩
    · have he : D.writeL i (s :: l) = writeL (D.write (i : Int) s).1 (i + 1) l := by
        show (if (D.write (i : Int) s).2 = 0 then _ else _) = _
        rw [if_pos h3]
      obtain ⟨k1, k2, k3⟩ := writeL_wrote l (D.write (i : Int) s).1 (i + 1) (by rw [h1.sec]; omega) (fun x hx => hs x (by simp [hx]))
      rw [he]
      refine ⟨(h1.mono (fun j hj => by omega)).trans (k1.mono (fun j hj => by omega)), by push_cast; omega, ?_⟩
      rcases k3 with ⟨k3, k4, k5⟩ | k3
      · refine .inl ⟨k3, fun j x hj => ?_, fun _ => k5 h5⟩
        cases j with
        | zero =>
          rw [k1.latest (by omega), Nat.add_zero, h4]
          exact Option.some.inj hj
        | succ j =>
          have := k4 j x (by simpa using hj)
          rw [show i + (j + 1) = i + 1 + j by omega]
          exact this
      · exact .inr k3
    · have he : D.writeL i (s :: l) = ((D.write (i : Int) s).1, (D.write (i : Int) s).2) := by
        show (if (D.write (i : Int) s).2 = 0 then _ else _) = _
        rw [if_neg (by rw [h3]; decide)]
      rw [he]
      exact ⟨h1.mono (fun j hj => by omega), by push_cast; omega, .inr ⟨h3, h4⟩⟩
theorem synced_latest {D : DevS} {i : Nat} (hi : i < D.sec.length) : D.synced.latest i = D.latest i := by
  show (waitsOf [] i).getLastD _ = _
  show D.synced.sec.getD i ByteArray.empty = _
  simp [synced, hi]
theorem synced_len (D : DevS) : D.synced.sec.length = D.sec.length := by simp [synced]
theorem stepped_len (D : DevS) : D.stepped.sec.length = D.sec.length := by rw [stepped_sec]
theorem stepped_latest (D : DevS) (i : Nat) : D.stepped.latest i = D.latest i := (stepped_wrote D (fun _ => False)).latest (by simp)
theorem Page.congr {D E : DevS} {no : Nat} {k t : Int} {b : ByteArray} (h : D.Page no k t b) (hl : E.sec.length = D.sec.length) (he : ∀ i, 4 * no ≤ i → i < 4 * no + 4 → E.latest i = D.latest i) : E.Page no k t b :=
  ⟨by rw [hl]; exact h.fits, by rw [four_congr he]; exact h.bytes⟩
end DevS
end Go.Proofs.YtjbcbnemdhbhbaaGreatDoor
namespace Go.Proofs.YtjbcbnemdhbhbaaGreatDoor
open Go.RowKit
open Go.PlainAid
set_option maxRecDepth 100000
set_option linter.unusedVariables false
set_option linter.unusedSimpArgs false
theorem unpack_is {s : ByteArray} {k n t : Int} {b : ByteArray} (h : IsPage s k n t b) (w : World) (hr : RowAt w) : Calls Tryz.prog 212 #[.string s] w (fun e w' => e = .returned (.tuple #[.agg #[.int .i64 k, .int .i64 n, .int .i64 t, .string b], .int .i64 0]) ∧ Below w.heap.size w w') := by
  have h1 := unpack_any s w hr
  obtain ⟨e1, e2, e3, e4, e5⟩ := unp_of h
  unfold UnpackPost at h1
  rw [e1, e2, e3, e4, e5] at h1
  exact h1
theorem Bk.setFour {w : World} {q : Nat} {t : TypeId} {v0 v1 v2 v3 : Value} (h : Bk w q t #[v0, v1, v2, v3]) (a0 a1 a2 a3 : Value) :
    (w.setCell ⟨q, 0, none⟩ a0).cell? ⟨q, 0, none⟩ = some a0 ∧ ((w.setCell ⟨q, 0, none⟩ a0).setCell ⟨q, 1, none⟩ a1).cell? ⟨q, 1, none⟩ = some a1 ∧ (((w.setCell ⟨q, 0, none⟩ a0).setCell ⟨q, 1, none⟩ a1).setCell ⟨q, 2, none⟩ a2).cell? ⟨q, 2, none⟩ = some a2 ∧
    ((((w.setCell ⟨q, 0, none⟩ a0).setCell ⟨q, 1, none⟩ a1).setCell ⟨q, 2, none⟩ a2).setCell ⟨q, 3, none⟩ a3).cell? ⟨q, 3, none⟩ = some a3 := by
  have h0 := h.put 0 a0
  have h1 := h0.put 1 a1
  have h2 := h1.put 2 a2
  have h3 := h2.put 3 a3
  exact ⟨h0.cell 0, h1.cell 1, h2.cell 2, h3.cell 3⟩
def PReadPost (k no t : Int) (b : ByteArray) (w : World) (e : Ending) (w' : World) : Prop := e = .returned (.tuple #[.agg #[.int .i64 k, .int .i64 no, .int .i64 t, .string b], .int .i64 0]) ∧ Below w.heap.size w w'
set_option maxHeartbeats 16000000 in
theorem pread_any {w : World} {q g : Nat} {T S : List Nat} {P : PgS} {D : DevS} (hp : Pg w q T g P) (hd : Dev w g S D) (hr : RowAt w) (hb : D.steps ≤ 1000000000) (hoff : D.off = false) (no : Nat) (h1 : 1 ≤ no) (h2 : (no : Int) < P.m.l) {k t : Int} {b : ByteArray} (hx : D.Page no k t b) :
    Calls Tryz.prog 156 #[.pointer (some ⟨q, 0, none⟩), .int .i64 no] w (PReadPost k no t b w) := by
  obtain ⟨sl, lg, hpa⟩ := hp
  have c0 : w.cell? ⟨q, 0, none⟩ = some (.pointer (some ⟨g, 0, none⟩)) := hpa.cells.cell 0
  have c5 : w.cell? ⟨q, 5, none⟩ = some (.int .i64 P.m.l) := hpa.cells.cell 5
  have lq := hpa.cells.lt
  obtain ⟨s0, e0⟩ : ∃ s, s = D.latest (4 * no) := ⟨_, rfl⟩
  obtain ⟨s1, e1⟩ : ∃ s, s = D.latest (4 * no + 1) := ⟨_, rfl⟩
  obtain ⟨s2, e2⟩ : ∃ s, s = D.latest (4 * no + 2) := ⟨_, rfl⟩
  obtain ⟨s3, e3⟩ : ∃ s, s = D.latest (4 * no + 3) := ⟨_, rfl⟩
  have hf := hx.fits
  have hok := hd.ok
  have hm := hok.most
  have z0 : s0.size = 128 := by rw [e0]; exact DevS.latest_size hok (by omega)
  have z1 : s1.size = 128 := by rw [e1]; exact DevS.latest_size hok (by omega)
  have z2 : s2.size = 128 := by rw [e2]; exact DevS.latest_size hok (by omega)
  have z3 : s3.size = 128 := by rw [e3]; exact DevS.latest_size hok (by omega)
  have HR : ∀ (j : Nat) (s : ByteArray), j < 4 → s = D.latest (4 * no + j) → Hid (∀ (W : World), Below w.heap.size w W → ∀ i : Int, i = 4 * (no : Int) + j → Calls Tryz.prog 152 #[ptr g, .int .i64 i] W (ReadPost s 0 W)) := fun j s hj hs => Lib.hid fun W hW i hi => by
    subst hs hi
    have := dread_from (hd.below hW) ((4 * no + j : Nat) : Int) (D.latest (4 * no + j)) 0 hb (DevS.read_on hoff (by omega))
    rw [show ((4 * no + j : Nat) : Int) = 4 * (no : Int) + j by omega] at this
    exact this
  have HR0 := HR 0 s0 (by omega) e0
  have HR1 := HR 1 s1 (by omega) e1
  have HR2 := HR 2 s2 (by omega) e2
  have HR3 := HR 3 s3 (by omega) e3
  clear HR
  have HU := Lib.hid (show IsPage ⟨(s0.data.toList ++ (s1.data.toList ++ (s2.data.toList ++ s3.data.toList))).toArray⟩ k no t b by rw [e0, e1, e2, e3, ← List.append_assoc, ← List.append_assoc]; exact hx.bytes)
  have HRW := Lib.hid hr
  have y1 : decide ((no : Int) < 1) = false := decide_eq_false (by omega)
  have y2 : decide (P.m.l ≤ (no : Int)) = false := decide_eq_false (by omega)
  have hn : no < 512 := by omega
  have HZ := Lib.hid (show s0.size = 128 ∧ s1.size = 128 ∧ s2.size = 128 ∧ s3.size = 128 from ⟨z0, z1, z2, z3⟩)
  have y3 : ((no : Int) != (no : Int)) = false := by simp
  clear e0 e1 e2 e3 hx hd hpa z0 z1 z2 z3 hok hm hf hoff hb hr h2
  go_enter Tryz.func156, Tryz.ntmps156
  go_wp2_with fail
  refine wp_loop_rounds 5 ?_
  rw [rounds_succ]
  go_wp2_with fail
  refine (HR0.out _ (((Below.refl _ w).alloc (Nat.le_refl _) _).alloc (by simp) _) _ (by omega)).mono ?_
  rintro e w1 ⟨rfl, rfl⟩
  have HS0 := Lib.hid (show SB (w.heap.size + 1) (w.heap.size + 1) [] ((w.alloc (.cells #[.int .i64 0, .int .i64 0, .int .i64 0, .string ⟨#[]⟩] 126)).alloc (.cells #[.pointer none, .slice none 0 0] 300)) from by have h := sb_new (w.alloc (.cells #[.int .i64 0, .int .i64 0, .int .i64 0, .string ⟨#[]⟩] 126)); rw [show (w.alloc (.cells #[.int .i64 0, .int .i64 0, .int .i64 0, .string ⟨#[]⟩] 126)).heap.size = w.heap.size + 1 by simp] at h; exact h)
  have HB0 := Lib.hid (show Below w.heap.size w ((w.alloc (.cells #[.int .i64 0, .int .i64 0, .int .i64 0, .string ⟨#[]⟩] 126)).alloc (.cells #[.pointer none, .slice none 0 0] 300)) from ((Below.refl _ w).alloc (Nat.le_refl _) _).alloc (by simp) _)
  have HP0 := Lib.hid (show Bk ((w.alloc (.cells #[.int .i64 0, .int .i64 0, .int .i64 0, .string ⟨#[]⟩] 126)).alloc (.cells #[.pointer none, .slice none 0 0] 300)) w.heap.size 126 #[.int .i64 0, .int .i64 0, .int .i64 0, .string ⟨#[]⟩] from (Bk.new w _ _).alloc _)
  go_wp2_with fail
  refine (sb_write _ _ _ _ _ HS0.out (by have := HZ.out; simp only [List.length_append, List.length_nil, len_size]; omega) (by have := HB0.out.size; simp)).mono ?_
  rintro e v0 ⟨rfl, hs, hb⟩
  have HS1 := Lib.hid hs
  have HB1 := Lib.hid (HB0.out.trans (hb.mono (by simp)))
  have c0_0 : v0.cell? ⟨q, 0, none⟩ = some (.pointer (some ⟨g, 0, none⟩)) := (HB1.out.cell (p := ⟨q, 0, none⟩) lq).trans c0
  have lq_0 : q < v0.heap.size := Nat.lt_of_lt_of_le lq HB1.out.size
  have HL1 := Lib.hid (show w.heap.size + 1 < v0.heap.size from by have h9 := hb.size; simp at h9; omega)
  have HP1 := Lib.hid (show Bk v0 w.heap.size 126 #[.int .i64 0, .int .i64 0, .int .i64 0, .string ⟨#[]⟩] from (hb.block w.heap.size (by simp)).trans HP0.out)
  clear hs hb
  go_wp2_with fail
  rw [rounds_succ]
  go_wp2_with fail
  refine (HR1.out _ HB1.out (4 * (no : Int) + 1) (by omega)).mono ?_
  rintro e w3 ⟨rfl, rfl⟩
  go_wp2_with fail
  refine (sb_write _ _ _ _ _ HS1.out (by have := HZ.out; simp only [List.length_append, List.length_nil, len_size]; omega) (by have := HB1.out.size; have := HL1.out; omega)).mono ?_
  rintro e v1 ⟨rfl, hs, hb⟩
  have HS2 := Lib.hid hs
  have HB2 := Lib.hid (HB1.out.trans (hb.mono (by simp)))
  have c0_1 : v1.cell? ⟨q, 0, none⟩ = some (.pointer (some ⟨g, 0, none⟩)) := (HB2.out.cell (p := ⟨q, 0, none⟩) lq).trans c0
  have lq_1 : q < v1.heap.size := Nat.lt_of_lt_of_le lq HB2.out.size
  have HL2 := Lib.hid (show w.heap.size + 1 < v1.heap.size from by have h9 := hb.size; have := HL1.out; omega)
  have HP2 := Lib.hid (show Bk v1 w.heap.size 126 #[.int .i64 0, .int .i64 0, .int .i64 0, .string ⟨#[]⟩] from (hb.block w.heap.size (by simp)).trans HP1.out)
  clear hs hb
  go_wp2_with fail
  rw [rounds_succ]
  go_wp2_with fail
  refine (HR2.out _ HB2.out (4 * (no : Int) + 2) (by omega)).mono ?_
  rintro e w5 ⟨rfl, rfl⟩
  go_wp2_with fail
  refine (sb_write _ _ _ _ _ HS2.out (by have := HZ.out; simp only [List.length_append, List.length_nil, len_size]; omega) (by have := HB2.out.size; have := HL2.out; omega)).mono ?_
  rintro e v2 ⟨rfl, hs, hb⟩
  have HS3 := Lib.hid hs
  have HB3 := Lib.hid (HB2.out.trans (hb.mono (by simp)))
  have c0_2 : v2.cell? ⟨q, 0, none⟩ = some (.pointer (some ⟨g, 0, none⟩)) := (HB3.out.cell (p := ⟨q, 0, none⟩) lq).trans c0
  have lq_2 : q < v2.heap.size := Nat.lt_of_lt_of_le lq HB3.out.size
  have HL3 := Lib.hid (show w.heap.size + 1 < v2.heap.size from by have h9 := hb.size; have := HL2.out; omega)
  have HP3 := Lib.hid (show Bk v2 w.heap.size 126 #[.int .i64 0, .int .i64 0, .int .i64 0, .string ⟨#[]⟩] from (hb.block w.heap.size (by simp)).trans HP2.out)
  clear hs hb
  go_wp2_with fail
  rw [rounds_succ]
  go_wp2_with fail
  refine (HR3.out _ HB3.out (4 * (no : Int) + 3) (by omega)).mono ?_
  rintro e w7 ⟨rfl, rfl⟩
  go_wp2_with fail
  refine (sb_write _ _ _ _ _ HS3.out (by have := HZ.out; simp only [List.length_append, List.length_nil, len_size]; omega) (by have := HB3.out.size; have := HL3.out; omega)).mono ?_
  rintro e v3 ⟨rfl, hs, hb⟩
  have HS4 := Lib.hid hs
  have HB4 := Lib.hid (HB3.out.trans (hb.mono (by simp)))
  have c0_3 : v3.cell? ⟨q, 0, none⟩ = some (.pointer (some ⟨g, 0, none⟩)) := (HB4.out.cell (p := ⟨q, 0, none⟩) lq).trans c0
  have lq_3 : q < v3.heap.size := Nat.lt_of_lt_of_le lq HB4.out.size
  have HL4 := Lib.hid (show w.heap.size + 1 < v3.heap.size from by have h9 := hb.size; have := HL3.out; omega)
  have HP4 := Lib.hid (show Bk v3 w.heap.size 126 #[.int .i64 0, .int .i64 0, .int .i64 0, .string ⟨#[]⟩] from (hb.block w.heap.size (by simp)).trans HP3.out)
  clear hs hb
  go_wp2_with fail
  rw [rounds_succ]
  go_wp2_with fail
  refine (sb_string _ _ _ _ HS4.out (by have := HL4.out; simp; omega)).mono ?_
  rintro e w8 ⟨rfl, hb⟩
  have HB5 := Lib.hid (HB4.out.trans (hb.mono (by simp)))
  have HP5 := Lib.hid (show Bk w8 w.heap.size 126 #[.int .i64 0, .int .i64 0, .int .i64 0, .string ⟨#[]⟩] from (hb.block w.heap.size (by simp)).trans HP4.out)
  clear hb
  go_wp2_with fail
  (with_reducible refine (unpack_is HU.out _ (HRW.out.below HB5.out)).mono ?_)
  rintro e w9 ⟨rfl, hb⟩
  have HB6 := Lib.hid (HB5.out.trans (hb.mono HB5.out.size))
  have HP6 := Lib.hid (bk_below HP5.out hb)
  clear hb
  have lp := HP6.out.lt
  obtain ⟨x0, x1, x2, x3⟩ := HP6.out.four
  have f0 := HP6.out.frozen 0
  have f1 := HP6.out.frozen 1
  have f2 := HP6.out.frozen 2
  have f3 := HP6.out.frozen 3
  go_wp2_with fail
  obtain ⟨u0, u1, u2, u3⟩ := HP6.out.setFour (.int .i64 k) (.int .i64 no) (.int .i64 t) (.string b)
  refine bodyPost_ret (v := .tuple #[.agg #[.int .i64 k, .int .i64 no, .int .i64 t, .string b], .int .i64 0]) (by simp [results, Tryz.results156, go_sem, lp, u0, u1, u2, u3]) rfl ⟨rfl, ?_⟩
  have ho : Off [w.heap.size] w9 ((((w9.setCell ⟨w.heap.size, 0, none⟩ (.int .i64 k)).setCell ⟨w.heap.size, 1, none⟩ (.int .i64 no)).setCell ⟨w.heap.size, 2, none⟩ (.int .i64 t)).setCell ⟨w.heap.size, 3, none⟩ (.string b)) :=
    ((((Off.refl _ _).setCell (.inl (by simp)) _).setCell (.inl (by simp)) _).setCell (.inl (by simp)) _).setCell (.inl (by simp)) _
  exact (((Off.of_below HB6.out []).then ho (fun x hx => by rw [List.mem_singleton] at hx; subst hx; exact .inr (Nat.le_refl _))).alloc _).below (Nat.le_refl _) (by simp)
end Go.Proofs.YtjbcbnemdhbhbaaGreatDoor
namespace Go.Proofs.YtjbcbnemdhbhbaaGreatDoor
open Go.RowKit
set_option maxRecDepth 100000
set_option linter.unusedVariables false
set_option linter.unusedSimpArgs false
structure Kv where
  t : Nat
  b : Nat
  q : Nat
  r : Nat
  g : Nat
  T : List Nat
  Sd : List Nat
  P : PgS
  D : DevS
  s : St
  txn : Nat
  root : Int
  fre : Int
  limit : Nat
  U : List Nat
  pc : List Nat
  disk : Book
  rm : Nat
  stage : Int
  over : Bool
  c2 : Value
  c3 : Value
  c4 : Value
  ro : Option Obj
def pgV (txn n : Nat) (p : Pgg) : Value := .agg #[.int .i64 p.kind, .int .i64 n, .int .i64 txn, .string p.body]
def dirtyV (txn : Nat) (d : Book) : Int → Option Value := fun i => if 0 ≤ i then (d i.toNat).map (pgV txn i.toNat) else none
theorem dirtyV_at (txn : Nat) (d : Book) (n : Nat) : dirtyV txn d (n : Int) = (d n).map (pgV txn n) := by
  unfold dirtyV
  rw [if_pos (by omega), Int.toNat_natCast]
theorem dirtyV_upd (txn : Nat) (d : Book) (n : Nat) (p : Option Pgg) : (fun j => if j = (n : Int) then p.map (pgV txn n) else dirtyV txn d j) = dirtyV txn (Tr.upd d n p) := by
  funext j
  by_cases e : j = (n : Int)
  · subst e; rw [if_pos rfl, dirtyV_at, Tr.upd_same]
  · rw [if_neg e]
    unfold dirtyV
    by_cases h : 0 ≤ j
    · rw [if_pos h, if_pos h, Tr.upd_ne _ _ (by omega)]
    · rw [if_neg h, if_neg h]
def Kv.upto (E : Kv) : Int := min ((E.txn : Int) - 2) (E.s.oldest ((E.txn : Int) - 1))
abbrev txCells (E : Kv) (x : Tx) (f dm : Nat) (lv fv : Value) : Array Value :=
  #[.pointer (some ⟨E.b, 0, none⟩), .int .i64 E.txn, .int .i64 E.txn, .int .i64 E.root, .int .i64 E.fre, .int .i64 x.pages, .int .i64 E.limit, .pointer (some ⟨f, 0, none⟩), .map (some dm), lv, fv, .map (some E.rm), .int .i64 E.stage, .bool E.over]
structure Kv.Ok (E : Kv) : Prop where
  txn : 2 ≤ E.txn
  txn2 : E.txn ≤ 1099511627776
  on : E.D.off = false
  steps : E.D.steps ≤ 1000000000
  lim : (E.limit : Int) = E.P.m.l
  page : ∀ n p, E.disk n = some p → n < E.limit ∧ ∃ t : Int, E.D.Page n p.kind t p.body
  upto : 0 ≤ E.upto
def txMut (t f dm : Nat) (Sf : List Nat) (lv fv : Value) : List Nat := t :: dm :: (lv.ownBlock.toList ++ (fv.ownBlock.toList ++ Sf))
def Kv.still (E : Kv) : List Nat := E.b :: E.q :: E.r :: 0 :: (E.T ++ E.Sd)
def RowIs (o : Option Obj) (w : World) : Prop := RowAt w ∧ w.heap[0]? = o
theorem RowIs.lt {o : Option Obj} {w : World} (h : RowIs o w) : 0 < w.heap.size := h.1.lt
theorem RowIs.off {o : Option Obj} {S : List Nat} {w w' : World} (h : RowIs o w) (ho : Off S w w') (hS : 0 ∉ S) : RowIs o w' := ⟨h.1.off ho hS, (ho.block _ h.1.lt hS).trans h.2⟩
theorem RowIs.below {o : Option Obj} {w w' : World} (h : RowIs o w) (hb : Below w.heap.size w w') : RowIs o w' := h.off (Off.of_below hb []) (by simp)
structure KvMem (E : Kv) (w : World) (S : List Nat) (hd : List Nat) (x : Tx) (f dm nn : Nat) (Sf : List Nat) (lv fv : Value) : Prop where
  cells : Bk w E.t 103 (txCells E x f dm lv fv)
  free : FL w f Sf x.fr
  map : IMap Tryz.prog 3 w dm nn (dirtyV E.txn x.dirty)
  nn : nn ≤ 600
  loose : w.ownsRow 0 3 1 lv x.loose.length (ints x.loose)
  freed : w.ownsRow 0 3 1 fv x.freed.length (ints x.freed)
  db : Bk w E.b 99 #[.pointer (some ⟨E.q, 0, none⟩), .pointer (some ⟨E.r, 0, none⟩), E.c2, E.c3, E.c4]
  rd : Bk w E.r 195 E.s.cells
  pg : Pg w E.q E.T E.g E.P
  dev : Dev w E.g E.Sd E.D
  row : RowIs E.ro w
  ok : x.Ok E.limit E.disk E.U E.pc hd
  blocks : S = txMut E.t f dm Sf lv fv ++ E.still
  nodup : (txMut E.t f dm Sf lv fv).Nodup
  apart : ∀ b ∈ txMut E.t f dm Sf lv fv, b ∉ E.still
theorem KvMem.off {E : Kv} {w w' : World} {S U hd : List Nat} {x : Tx} {f dm nn : Nat} {Sf : List Nat} {lv fv : Value} (h : KvMem E w S hd x f dm nn Sf lv fv) (ho : Off U w w') (hU : ∀ b ∈ S, b ∉ U) : KvMem E w' S hd x f dm nn Sf lv fv := by
  have hm : ∀ b ∈ txMut E.t f dm Sf lv fv, b ∉ U := fun b hb => hU b (by rw [h.blocks]; exact List.mem_append.2 (.inl hb))
  have hs : ∀ b ∈ E.still, b ∉ U := fun b hb => hU b (by rw [h.blocks]; exact List.mem_append.2 (.inr hb))
  have hdb := h.db
  exact ⟨ho.bk h.cells (hm _ (by simp [txMut])), h.free.off ho (fun b hb => hm b (by simp [txMut, hb])), h.map.off ho (hm _ (by simp [txMut])), h.nn,
    ho.own h.loose (fun b hb => hm b (by simp [txMut, hb])), ho.own h.freed (fun b hb => hm b (by simp [txMut, hb])), ho.bk hdb (hs _ (by simp [Kv.still])), ho.bk h.rd (hs _ (by simp [Kv.still])),
    h.pg.off ho (fun b hb => hs b (by simp [Kv.still, hb])), h.dev.off ho (fun b hb => hs b (by simp [Kv.still, hb])), h.row.off ho (hs _ (by simp [Kv.still])), h.ok, h.blocks, h.nodup, h.apart⟩
theorem KvMem.old {E : Kv} {w : World} {S hd : List Nat} {x : Tx} {f dm nn : Nat} {Sf : List Nat} {lv fv : Value} (h : KvMem E w S hd x f dm nn Sf lv fv) : ∀ b ∈ S, b < w.heap.size := by
  intro b hb
  have hdb := h.db
  rw [h.blocks] at hb
  rcases List.mem_append.1 hb with hb | hb
  · simp only [txMut, List.mem_cons, List.mem_append, Option.mem_toList] at hb
    rcases hb with rfl | rfl | hb | hb | hb
    · exact h.cells.lt
    · exact h.map.lt
    · exact (World.ownsRow.lt h.loose b hb).2
    · exact (World.ownsRow.lt h.freed b hb).2
    · exact h.free.old b hb
  · simp only [Kv.still, List.mem_cons, List.mem_append] at hb
    rcases hb with rfl | rfl | rfl | rfl | hb | hb
    · exact hdb.lt
    · obtain ⟨_, _, hp⟩ := h.pg; exact hp.cells.lt
    · exact h.rd.lt
    · exact h.row.lt
    · exact h.pg.old b hb
    · exact h.dev.old b hb
def kvStore (E : Kv) (F : Prop) : Store where
  T := 111
  v := .agg #[.pointer (some ⟨E.t, 0, none⟩)]
  At w S σ k := ∃ (x : Tx) (f dm nn : Nat) (Sf : List Nat) (lv fv : Value), KvMem E w S [] x f dm nn Sf lv fv ∧ σ = x.book E.disk E.U ∧ k ≤ x.sure E.limit E.upto.toNat
  F := F
theorem oneDirty {E : Kv} {w : World} {S hd : List Nat} {x : Tx} {f dm nn : Nat} {Sf : List Nat} {lv fv : Value} (h : KvMem E w S hd x f dm nn Sf lv fv) (n : Nat) (hn : n < 512) (W : World) (ho : Off [] w W) :
    (Instr.lookup 100 (.map (some dm)) (.int .i64 n) true).run Tryz.prog W = .ok (.tuple #[((x.dirty n).map (pgV E.txn n)).getD (.agg #[.int .i64 0, .int .i64 0, .int .i64 0, .string ⟨#[]⟩]), .bool (x.dirty n).isSome]) W := by
  have hm := h.map.off ho (by simp)
  have h1 := hm.look2 Tryz.underlying3 Tryz.underlying100 (z := .agg #[.int .i64 0, .int .i64 0, .int .i64 0, .string ⟨#[]⟩]) (by kernel_rfl) (i := (n : Int)) (wf64 (by omega) (by omega))
  rw [dirtyV_at] at h1
  rw [h1]
  cases x.dirty n <;> rfl
set_option maxHeartbeats 8000000 in
theorem wload_own {E : Kv} {w : World} {S hd : List Nat} {x : Tx} {f dm nn : Nat} {Sf : List Nat} {lv fv : Value} (h : KvMem E w S hd x f dm nn Sf lv fv) (n : Nat) (p : Pgg) (hp : x.dirty n = some p) :
    Calls Tryz.prog 318 #[.agg #[.pointer (some ⟨E.t, 0, none⟩)], .int .i64 n] w (fun e w' => Below w.heap.size w w' ∧ ∃ a b : Int, e = .returned (.tuple #[.agg #[.int .i64 p.kind, .int .i64 a, .int .i64 b, .string p.body], .int .i64 0])) := by
  have hr := h.ok.range.2.1 n (by rw [hp]; simp)
  have hn : n < 512 := by have := h.ok.le; have := h.ok.lim; omega
  have c0 := h.cells.cell 0
  have c8 := h.cells.cell 8
  have lt := h.cells.lt
  have hl : ∀ W, Off [] w W → (Instr.lookup 100 (.map (some dm)) (.int .i64 n) true).run Tryz.prog W = .ok (.tuple #[pgV E.txn n p, .bool true]) W := fun W hW => by
    have := oneDirty h n hn W hW
    rw [hp] at this
    exact this
  have HL := Lib.hid (hl ((w.alloc (.cells #[.pointer (some ⟨E.t, 0, none⟩)] 111)).alloc (.cells #[.int .i64 0, .int .i64 0, .int .i64 0, .string ⟨#[]⟩] 126)) (((Off.refl [] w).alloc _).alloc _))
  unfold pgV at HL
  clear h hp hl
  have hl2 := HL.out
  go_enter Tryz.func318, Tryz.ntmps318
  go_wp2_with fail
  refine bodyPost_ret (v := .tuple #[.agg #[.int .i64 p.kind, .int .i64 n, .int .i64 E.txn, .string p.body], .int .i64 0]) (by simp [results, Tryz.results318, go_sem]) rfl ⟨?_, n, E.txn, rfl⟩
  exact (((Below.refl _ w).alloc (Nat.le_refl _) _).alloc (by simp) _).alloc (by simp; omega) _
set_option maxHeartbeats 8000000 in
theorem wload_disk {E : Kv} (hE : E.Ok) {w : World} {S hd : List Nat} {x : Tx} {f dm nn : Nat} {Sf : List Nat} {lv fv : Value} (h : KvMem E w S hd x f dm nn Sf lv fv) (n : Nat) (p : Pgg) (hdn : x.dirty n = none) (hu : n ∈ E.U) (hp : E.disk n = some p) :
    Calls Tryz.prog 318 #[.agg #[.pointer (some ⟨E.t, 0, none⟩)], .int .i64 n] w (fun e w' => Below w.heap.size w w' ∧ ∃ a b : Int, e = .returned (.tuple #[.agg #[.int .i64 p.kind, .int .i64 a, .int .i64 b, .string p.body], .int .i64 0])) := by
  have hr := h.ok.range.2.2.2.1 n hu
  have hn : n < 512 := by have := h.ok.le; have := h.ok.lim; omega
  have hdb := h.db
  have c0 : w.cell? ⟨E.t, 0, none⟩ = some (.pointer (some ⟨E.b, 0, none⟩)) := h.cells.cell 0
  have c8 : w.cell? ⟨E.t, 8, none⟩ = some (.map (some dm)) := h.cells.cell 8
  have d0 : w.cell? ⟨E.b, 0, none⟩ = some (.pointer (some ⟨E.q, 0, none⟩)) := hdb.cell 0
  have lb := hdb.lt
  have lt := h.cells.lt
  obtain ⟨hlim, tt, hpg⟩ := hE.page n p hp
  have hl : ∀ W, Off [] w W → (Instr.lookup 100 (.map (some dm)) (.int .i64 n) true).run Tryz.prog W = .ok (.tuple #[.agg #[.int .i64 0, .int .i64 0, .int .i64 0, .string ⟨#[]⟩], .bool false]) W := fun W hW => by
    have := oneDirty h n hn W hW
    rw [hdn] at this
    exact this
  have HL := Lib.hid (hl ((w.alloc (.cells #[.pointer (some ⟨E.t, 0, none⟩)] 111)).alloc (.cells #[.int .i64 0, .int .i64 0, .int .i64 0, .string ⟨#[]⟩] 126)) (((Off.refl [] w).alloc _).alloc _))
  have HRD := Lib.hid fun (W : World) (hb : Below w.heap.size w W) => pread_any (h.pg.below hb) (h.dev.below hb) (h.row.below hb).1 hE.steps hE.on n hr.1 (by rw [← hE.lim]; omega) hpg
  clear h hp hl hdn hu hE hpg hdb hlim
  have hl2 := HL.out
  have lt1 : E.t < w.heap.size + 1 := by omega
  have lt2 : E.t < w.heap.size + 1 + 1 := by omega
  have lb1 : E.b < w.heap.size + 1 := by omega
  have lb2 : E.b < w.heap.size + 1 + 1 := by omega
  go_enter Tryz.func318, Tryz.ntmps318
  go_wp2_with fail
  (with_reducible refine (HRD.out _ ?_).mono ?_)
  · exact (((Below.refl _ w).alloc (Nat.le_refl _) _).alloc (by simp) _).alloc (by simp; omega) _
  rintro e w1 ⟨rfl, hb1⟩
  have hz1 : (w.alloc (.cells #[.pointer (some ⟨E.t, 0, none⟩)] 111)).heap.size = w.heap.size + 1 := by simp
  have hbk := bk_below ((Bk.new (w.alloc (.cells #[.pointer (some ⟨E.t, 0, none⟩)] 111)) 126 #[.int .i64 0, .int .i64 0, .int .i64 0, .string ⟨#[]⟩]).alloc (.cells #[.int .i64 0, .int .i64 0, .int .i64 0, .string ⟨#[]⟩] 126)) hb1
  rw [hz1] at hbk
  have HBK := Lib.hid hbk
  have HB := Lib.hid ((((((Below.refl _ w).alloc (Nat.le_refl _) (.cells #[.pointer (some ⟨E.t, 0, none⟩)] 111)).alloc (by simp) (.cells #[.int .i64 0, .int .i64 0, .int .i64 0, .string ⟨#[]⟩] 126)).alloc (by simp; omega) (.cells #[.int .i64 0, .int .i64 0, .int .i64 0, .string ⟨#[]⟩] 126))).trans (hb1.mono (by simp; omega)))
  obtain ⟨x0, x1, x2, x3⟩ := hbk.four
  have f0 := hbk.frozen 0
  have f1 := hbk.frozen 1
  have f2 := hbk.frozen 2
  have f3 := hbk.frozen 3
  have lp := hbk.lt
  clear hb1 hbk hz1
  go_wp2_with fail
  obtain ⟨u0, u1, u2, u3⟩ := HBK.out.setFour (.int .i64 p.kind) (.int .i64 n) (.int .i64 tt) (.string p.body)
  refine bodyPost_ret (v := .tuple #[.agg #[.int .i64 p.kind, .int .i64 n, .int .i64 tt, .string p.body], .int .i64 0]) (by simp [results, Tryz.results318, go_sem, lp, u0, u1, u2, u3]) rfl ⟨?_, n, tt, rfl⟩
  have ho : Off [w.heap.size + 1] w1 ((((w1.setCell ⟨w.heap.size + 1, 0, none⟩ (.int .i64 p.kind)).setCell ⟨w.heap.size + 1, 1, none⟩ (.int .i64 n)).setCell ⟨w.heap.size + 1, 2, none⟩ (.int .i64 tt)).setCell ⟨w.heap.size + 1, 3, none⟩ (.string p.body)) :=
    ((((Off.refl _ _).setCell (.inl (by simp)) _).setCell (.inl (by simp)) _).setCell (.inl (by simp)) _).setCell (.inl (by simp)) _
  exact ((Off.of_below HB.out []).then ho (fun y hy => by rw [List.mem_singleton] at hy; subst hy; exact .inr (by omega))).below (Nat.le_refl _) (by simp)
end Go.Proofs.YtjbcbnemdhbhbaaGreatDoor

import Derived.Test.YtjbcbnemdhbhbaaGreatDoorK33
import Derived.Test.YtjbcbnemdhbhbaaGreatDoorK20
namespace Go.Proofs.YtjbcbnemdhbhbaaGreatDoor
open Go.RowKit
set_option maxRecDepth 100000
set_option linter.unusedVariables false
set_option linter.unusedSimpArgs false
set_option maxHeartbeats 8000000 in
theorem hold_small (p : Store) (key val : ByteArray) (w : World) (hv : val.size ≤ 96) :
    Calls Tryz.prog 103 #[.iface p.T p.v, .string key, .string val] w (fun e w' => e = .returned (.tuple #[.agg #[.string key, .string val, .int .i64 0, .int .i64 0, .int .i64 0], .int .i64 0]) ∧ Below w.heap.size w w') := by
  have z1 : decide ((val.size : Int) ≤ 96) = true := decide_eq_true (by omega)
  have z2 : decide (val.size ≤ 96) = true := decide_eq_true hv
  go_enter Tryz.func103, Tryz.ntmps103
  go_wp2_with fail
  refine bodyPost_ret (v := .tuple #[.agg #[.string key, .string val, .int .i64 0, .int .i64 0, .int .i64 0], .int .i64 0]) (by simp [results, Tryz.results103, go_sem]) rfl ⟨rfl, ?_⟩
  exact (Below.refl _ w).alloc (Nat.le_refl _) _
end Go.Proofs.YtjbcbnemdhbhbaaGreatDoor
namespace Go.Proofs.YtjbcbnemdhbhbaaGreatDoor
open Go.RowKit
set_option maxRecDepth 100000
set_option linter.unusedVariables false
set_option linter.unusedSimpArgs false
def HeldNo (p : Store) (S : List Nat) (w : World) (e : Ending) (w' : World) : Prop := Full p S w w' e (.returned (.tuple #[.agg #[.string ⟨#[]⟩, .string ⟨#[]⟩, .int .i64 0, .int .i64 0, .int .i64 0], .int .i64 9]))
theorem Step.result {p : Store} (hp : Serves p) {w w1 w3 w4 : World} {S : List Nat} {σ : Book} {k : Nat} (hb : Below w.heap.size w w1) (h : Step p S w1 w3 σ k) (ho : Off [w.heap.size] w3 w4) (hS : ∀ b ∈ S, b < w.heap.size) (hlt : w.heap.size < w1.heap.size) : Step p S w w4 σ k := by
  obtain ⟨S', hat, hof, hfr⟩ := h
  have hn : w.heap.size ∉ S' := fun hs => by
    rcases hfr _ hs with h | h
    · have := hS _ h; omega
    · omega
  refine ⟨S', hp.off hat ho (fun b hb hu => by rw [List.mem_singleton] at hu; subst hu; exact hn hb), (((Off.of_below hb S).trans hof).then ho (fun g hg => by rw [List.mem_singleton] at hg; subst hg; exact .inr (Nat.le_refl _))), hfr.mono hb.size⟩
theorem Off.five {w : World} {q : Nat} {a0 a1 a2 a3 a4 : Value} : Off [q] w (((((w.setCell ⟨q, 0, none⟩ a0).setCell ⟨q, 1, none⟩ a1).setCell ⟨q, 2, none⟩ a2).setCell ⟨q, 3, none⟩ a3).setCell ⟨q, 4, none⟩ a4) :=
  (((((Off.refl _ _).setCell (.inl (by simp)) _).setCell (.inl (by simp)) _).setCell (.inl (by simp)) _).setCell (.inl (by simp)) _).setCell (.inl (by simp)) _
theorem Bk.fiveSet {w : World} {q : Nat} {t : TypeId} {v0 v1 v2 v3 v4 : Value} (h : Bk w q t #[v0, v1, v2, v3, v4]) (a0 a1 a2 a3 a4 : Value) :
    (w.setCell ⟨q, 0, none⟩ a0).cell? ⟨q, 0, none⟩ = some a0 ∧ ((w.setCell ⟨q, 0, none⟩ a0).setCell ⟨q, 1, none⟩ a1).cell? ⟨q, 1, none⟩ = some a1 ∧ (((w.setCell ⟨q, 0, none⟩ a0).setCell ⟨q, 1, none⟩ a1).setCell ⟨q, 2, none⟩ a2).cell? ⟨q, 2, none⟩ = some a2 ∧
    ((((w.setCell ⟨q, 0, none⟩ a0).setCell ⟨q, 1, none⟩ a1).setCell ⟨q, 2, none⟩ a2).setCell ⟨q, 3, none⟩ a3).cell? ⟨q, 3, none⟩ = some a3 ∧ (((((w.setCell ⟨q, 0, none⟩ a0).setCell ⟨q, 1, none⟩ a1).setCell ⟨q, 2, none⟩ a2).setCell ⟨q, 3, none⟩ a3).setCell ⟨q, 4, none⟩ a4).cell? ⟨q, 4, none⟩ = some a4 := by
  have h0 := h.put 0 a0
  have h1 := h0.put 1 a1
  have h2 := h1.put 2 a2
  have h3 := h2.put 3 a3
  have h4 := h3.put 4 a4
  exact ⟨h0.cell 0, h1.cell 1, h2.cell 2, h3.cell 3, h4.cell 4⟩
set_option maxHeartbeats 16000000 in
theorem hold_one {p : Store} (hp : Serves p) {w : World} {S : List Nat} {σ : Book} {k : Nat} (h : p.At w S σ k) (key val : ByteArray) (hv : 96 < val.size) (hv2 : val.size ≤ 484) (hk : p.F ∨ 1 ≤ k) :
    Calls Tryz.prog 103 #[.iface p.T p.v, .string key, .string val] w (fun e w' => (∃ n : Nat, e = .returned (.tuple #[.agg #[.string key, .string ⟨#[]⟩, .int .i64 n, .int .i64 val.size, .int .i64 0], .int .i64 0]) ∧ 1 ≤ n ∧ n < 512 ∧ σ n = none ∧ Step p S w w' (Tr.upd σ n (some ⟨3, ⟨(Be.low 0 4).toArray⟩ ++ val⟩)) (k - 1)) ∨ HeldNo p S w e w') := by
  have z1 : decide ((val.size : Int) ≤ 96) = false := decide_eq_false (by omega)
  have z2 : decide (val.size ≤ 96) = false := decide_eq_false (by omega)
  obtain ⟨f, rv, hn, hm, he, hmk⟩ := hp.make
  have HPUT := Lib.hid fun (W : World) => (show Calls Tryz.prog 160 #[.string ⟨#[]⟩, .int .u64 0, .int .i64 4] W (TellsSE (⟨(Be.low 0 4).toArray⟩) 0 W) from put_ok ⟨#[]⟩ 0 4 W (by show 0 ≤ 1000000; omega) (by omega) (by omega) (by omega))
  have q1 : (val.size : Int) - 1 = ((val.size - 1 : Nat) : Int) := by omega
  have q2 : ((val.size - 1 : Nat) : Int) / 484 = 0 := by omega
  have m1 : ¬ (484 : Int) < (val.size : Int) := by omega
  have m2 : ¬ 484 < val.size := by omega
  have m5 : (if (484 : Int) < (val.size : Int) then (484 : Int) else (val.size : Int)) = (val.size : Int) := if_neg m1
  have m6 : (if 484 < val.size then (484 : Int) else (val.size : Int)) = (val.size : Int) := if_neg m2
  have hw9 : IntKind.i64.wrap 484 = 484 := rfl
  have m7 : (0 : Int) ≤ (val.size : Int) := by omega
  have m8 : (val.size : Int) ≤ (val.size : Int) := by omega
  have m9 : val.extract 0 val.size = val := by simp
  have m3 : decide ((484 : Int) < (val.size : Int)) = false := decide_eq_false m1
  have m4 : decide (484 < val.size) = false := decide_eq_false m2
  have q3 : min (val.size : Int) 484 = val.size := by omega
  obtain ⟨b, hb9⟩ : ∃ b : ByteArray, b = ⟨(Be.low 0 4).toArray⟩ ++ val := ⟨_, rfl⟩
  have hbs : b.size ≤ 488 := by rw [hb9, ByteArray.size_append]; show 4 + val.size ≤ 488; omega
  have hadd : ∀ W : World, (Op.stringOp .add ⟨(Be.low 0 4).toArray⟩ val).run Tryz.prog W = .ok (.string b) W := fun W => by
    rw [hb9]
    exact run_string_add_sum W _ _ (by show 4 + val.size ≤ _; omega)
  rw [← hb9]
  have HB9 := Lib.hid hb9
  clear hb9
  have HMK := Lib.hid hmk
  have HA := Lib.hid h
  have HK := Lib.hid hk
  have HOLD := Lib.hid (hp.old h)
  have HNS := Lib.hid (show w.heap.size ∉ S from fun hs => by have := hp.old h _ hs; omega)
  clear hmk h hk
  go_enter Tryz.func103, Tryz.ntmps103
  go_wp2_with fail
  refine wp_loop_rounds 3 ?_
  rw [rounds_succ]
  go_wp2_with (first
    | (go_at_call 160; go_must (refine (HPUT.out _).mono ?_); rintro e w1 ⟨rfl, hb1⟩; have HN1 := Lib.hid (((Below.refl _ w).alloc (Nat.le_refl _) _).trans (hb1.mono (by simp))); have HZ1 := Lib.hid (bk_below (Bk.new w _ _) hb1); clear hb1)
    | fail)
  have l1 := HN1.out.size
  have HMJ := Lib.hid (way_letters (HMK.out w1.drew S σ k ⟨3, b⟩ (hp.below HA.out HN1.out.drew) HK.out (by show 1 ≤ 3; omega) (Nat.le_refl _) hbs))
  go_region_held3 (fun W => Bk W w.heap.size 170 #[.string ⟨#[]⟩, .string ⟨#[]⟩, .int .i64 0, .int .i64 0, .int .i64 0]) (first | exact HZ1.out.drew | exact (MkWay.off hw3.out).bk HZ1.out.drew HNS.out) (first
        | (refine HMJ.out.mono ?_; rintro e w3 ⟨rn, re, rfl, hw3⟩))
  all_goals
    have l3 : w.heap.size < w3.heap.size := Nat.lt_of_lt_of_le HZ1.out.lt (MkWay.off hw3.out).size
    have HZ3 := Lib.hid ((MkWay.off hw3.out).bk HZ1.out.drew HNS.out)
    obtain ⟨f0, f1, f2, f3, f4, g0, g1, g2, g3, g4, -⟩ := HZ3.out.all5
    rcases hw3.out with ⟨n, rfl, rfl, n1, n2, hnn, hst⟩ | ⟨hF, rfl, rfl, σ3, S3, hst, hof, hfr⟩
    · have HST := Lib.hid hst
      have HNN := Lib.hid hnn
      clear hw3 hst hnn
      go_wp2_with fail
      repeat any_goals (rw [rounds_succ]; go_wp2_with fail)
      all_goals
        obtain ⟨s0, s1, s2, s3, s4⟩ := HZ3.out.fiveSet (.string key) (.string ⟨#[]⟩) (.int .i64 n) (.int .i64 val.size) (.int .i64 0)
        refine bodyPost_ret (v := .tuple #[.agg #[.string key, .string ⟨#[]⟩, .int .i64 n, .int .i64 val.size, .int .i64 0], .int .i64 0]) (by simp [results, Tryz.results103, go_sem, l3, s0, s1, s2, s3, s4]) rfl (.inl ⟨n, rfl, n1, n2, HNN.out, Step.result hp HN1.out.drew HST.out Off.five HOLD.out HZ1.out.lt⟩)
    · have HST := Lib.hid (show p.F ∧ Step p S w1.drew w3 σ3 0 from ⟨hF, S3, hst, hof, hfr⟩)
      clear hw3 hst hof hfr
      go_wp2_with fail
      obtain ⟨s0, s1, s2, s3, s4⟩ := HZ3.out.fiveSet (.string ⟨#[]⟩) (.string ⟨#[]⟩) (.int .i64 0) (.int .i64 0) (.int .i64 0)
      refine bodyPost_ret (v := .tuple #[.agg #[.string ⟨#[]⟩, .string ⟨#[]⟩, .int .i64 0, .int .i64 0, .int .i64 0], .int .i64 9]) (by simp [results, Tryz.results103, go_sem, l3, s0, s1, s2, s3, s4]) rfl (.inr ⟨HST.out.1, rfl, σ3, Step.result hp HN1.out.drew HST.out.2 Off.five HOLD.out HZ1.out.lt⟩)
end Go.Proofs.YtjbcbnemdhbhbaaGreatDoor
namespace Go.Proofs.YtjbcbnemdhbhbaaGreatDoor
open Go.RowKit
set_option maxRecDepth 100000
set_option linter.unusedVariables false
set_option linter.unusedSimpArgs false
def HoldWay (p : Store) (S : List Nat) (σ : Book) (k : Nat) (key val : ByteArray) (w w' : World) (c : Ce) (x : Int) : Prop :=
  (x = 0 ∧ ∃ (e : En) (σ' : Book), e.cell = c ∧ c.key = key ∧ e.val = val.data.toList ∧ e.pages.length ≤ 1 ∧ Tr.EnOk σ' e ∧ Tr.Moved σ [] σ' e.pages ∧ Step p S w w' σ' (k - 1)) ∨ (x = 9 ∧ p.F ∧ ∃ σ', Step p S w w' σ' 0)
theorem HoldWay.off {p : Store} {S : List Nat} {σ : Book} {k : Nat} {key val : ByteArray} {w w' : World} {c : Ce} {x : Int} (h : HoldWay p S σ k key val w w' c x) : Off S w w' := by
  rcases h with ⟨-, e, σ', -, -, -, -, -, -, S', -, h, -⟩ | ⟨-, -, σ', S', -, h, -⟩
  · exact h
  · exact h
theorem val_drop4 (b val : ByteArray) (h : b = (⟨(Be.low 0 4).toArray⟩ : ByteArray) ++ val) : b = ⟨(Be.low 0 4 ++ val.data.toList).toArray⟩ := by
  rw [h]
  exact Nd.str_ext (by simp [ByteArray.toList_eq])
theorem hold_any {p : Store} (hp : Serves p) {w : World} {S : List Nat} {σ : Book} {k : Nat} (h : p.At w S σ k) (key val : ByteArray) (hk1 : 1 ≤ key.size) (hk2 : key.size ≤ 120) (hv : val.size ≤ 484) (hk : p.F ∨ 1 ≤ k) :
    Calls Tryz.prog 103 #[.iface p.T p.v, .string key, .string val] w (fun e w' => ∃ (c : Ce) (x : Int), e = .returned (.tuple #[.agg #[.string c.key, .string c.val, .int .i64 c.over, .int .i64 c.size, .int .i64 c.child], .int .i64 x]) ∧ Hid (HoldWay p S σ k key val w w' c x)) := by
  by_cases h96 : val.size ≤ 96
  · refine (hold_small p key val w h96).mono ?_
    rintro e w' ⟨rfl, hb⟩
    refine ⟨⟨key, val, 0, 0, 0⟩, 0, rfl, Lib.hid (.inl ⟨rfl, ⟨⟨key, val, 0, 0, 0⟩, [], val.data.toList⟩, σ, rfl, rfl, rfl, by simp, ⟨?_, .inl ⟨rfl, rfl, rfl⟩⟩, Tr.Moved.refl (by simp) (by simp), S, hp.less (hp.below h hb) (by omega), Off.of_below hb S, Fresh.refl _ _⟩)⟩
    simp [Nd.rightLeaf]
    omega
  · refine (hold_one hp h key val (by omega) hv hk).mono ?_
    rintro e w' (⟨n, rfl, n1, n2, hn, hst⟩ | ⟨hF, rfl, σ', hst⟩)
    · refine ⟨⟨key, ⟨#[]⟩, n, val.size, 0⟩, 0, rfl, Lib.hid (.inl ⟨rfl, ⟨⟨key, ⟨#[]⟩, n, val.size, 0⟩, [n], val.data.toList⟩, _, rfl, rfl, rfl, by simp, ⟨?_, .inr ⟨by show n ≠ 0; omega, ?_, rfl⟩⟩, Tr.Moved.make hn _, hst⟩)⟩
      · have e0 : ¬ n = 0 := by omega
        have e1 : (⟨#[]⟩ : ByteArray).size = 0 := rfl
        simp [Nd.rightLeaf, e0, e1]
        omega
      · have hc := Tr.Chain.push (σ := σ) (n := n) (next := 0) (ns := []) (v := []) (piece := val.data.toList) ⟨rfl, rfl⟩ hn n1 n2 (by show 0 < val.size; omega) (by show val.size ≤ 484; omega) (fun hh => absurd rfl hh)
        rw [List.append_nil] at hc
        rw [val_drop4 _ val rfl]
        exact hc
    · exact ⟨Ce.zero, 9, rfl, Lib.hid (.inr ⟨rfl, hF, σ', hst⟩)⟩
def PutTells (p : Store) (S : List Nat) (σ : Book) (k c : Nat) (P : List Nat) (L : List En) (key val : ByteArray) (w : World) (e : Ending) (w' : World) : Prop :=
  ∃ x : En, x.cell.key = key ∧ x.val = val.data.toList ∧ x.pages.length ≤ 1 ∧ RootWay p S σ k (c + 1) P (Tr.putE key x L) w e w'
set_option maxHeartbeats 16000000 in
theorem put_any {p : Store} (hp : Serves p) {w : World} {S : List Nat} {σ : Book} {k : Nat} (h : p.At w S σ k) (root : Nat) {P : List Nat} {L : List En} {c0 : Nat} (hrt : Tr.RootC σ c0 root P L) (hnd : P.Nodup) (key val : ByteArray) (hk1 : 1 ≤ key.size) (hk2 : key.size ≤ 120) (hv : val.size ≤ 484) (hk : p.F ∨ c0 + 1 ≤ k) :
    Calls Tryz.prog 48 #[.iface p.T p.v, .int .i64 root, .string key, .string val] w (PutTells p S σ k c0 P L key val w) := by
  have hne : (key.toList == []) = false := by
    have : key.toList.length = key.size := by rw [ByteArray.toList_eq]; rfl
    cases hl : key.toList with
    | nil => rw [hl] at this; simp at this; omega
    | cons a t => rfl
  have hne2 : (key.toList == (⟨#[]⟩ : ByteArray).toList) = false := by
    have : (⟨#[]⟩ : ByteArray).toList = [] := by rw [ByteArray.toList_eq]
    rw [this]; exact hne
  have z1 : decide ((120 : Int) < (key.size : Int)) = false := decide_eq_false (by omega)
  have z2 : decide (120 < key.size) = false := decide_eq_false (by omega)
  have z3 : decide ((4000 : Int) < (val.size : Int)) = false := decide_eq_false (by omega)
  have z4 : decide (4000 < val.size) = false := decide_eq_false (by omega)
  have HH := Lib.hid (hold_any hp (w := (w.alloc (.cells #[.iface p.T p.v] 168)).alloc (.cells #[.string key] 9)) (hp.off h (((Off.refl [] w).alloc _).alloc _) (by simp)) key val hk1 hk2 hv (hk.imp id (fun _ => by omega)))
  have HA := Lib.hid h
  have HRT := Lib.hid hrt
  have HOLD := Lib.hid (hp.old h)
  have HND := Lib.hid hnd
  have HK := Lib.hid hk
  clear h hrt hnd hk
  go_enter Tryz.func48, Tryz.ntmps48
  go_wp2_with fail
  refine HH.out.mono ?_
  rintro e w1 ⟨c, x, rfl, hw1⟩
  have HOW1 := Lib.hid (show Off S w w1 from (((Off.refl S w).alloc _).alloc _).trans hw1.off)
  have HKB := Lib.hid (show Bk w1 (w.heap.size + 1) 9 #[.string key] from hw1.off.bk (by have h := Bk.new (w.alloc (.cells #[.iface p.T p.v] 168)) 9 #[.string key]; simpa using h) (fun hs => by have := HOLD.out _ hs; omega))
  have HPB := Lib.hid (show Bk w1 w.heap.size 168 #[.iface p.T p.v] from hw1.off.bk ((Bk.new w _ _).alloc _) (fun hs => by have := HOLD.out _ hs; omega))
  have hs1 : w.heap.size + 2 ≤ w1.heap.size := by have := hw1.off.size; simp at this; omega
  have l0 : w.heap.size < w1.heap.size := by omega
  have l1 : w.heap.size + 1 < w1.heap.size := by omega
  have k0 := HKB.out.cell 0
  have p0 := HPB.out.cell 0
  rcases hw1.out with ⟨rfl, y, σ1, rfl, hyk, hyv, hyl, hok, hmv, S1, hat1, hof1, hfr1⟩ | ⟨rfl, hF, σ1, S1, hat1, hof1, hfr1⟩
  · have HB := Lib.hid (hmv.frame (R := P) (fun n hn => by rcases HRT.out with ⟨rfl, rfl, rfl, -⟩ | ⟨d, hst, -⟩; cases hn; exact (hst.mem n hn).2.2) HND.out (by simp))
    have hq : (w1.alloc (.cells #[.string y.cell.key, .string y.cell.val, .int .i64 y.cell.over, .int .i64 y.cell.size, .int .i64 y.cell.child] 170)).heap.size = w1.heap.size + 1 := by simp
    have hfr : Fresh w S S1 := hfr1.mono (by simp; omega)
    have hns : ∀ q, (q = w.heap.size ∨ q = w.heap.size + 1 ∨ q = w1.heap.size) → q ∉ S1 := fun q hq hs => by
      have h2 := hp.old hat1 q hs
      rcases hfr1 q hs with h3 | h3
      · have := HOLD.out q h3; omega
      · simp at h3; omega
    have hroot : Tr.RootC σ1 c0 root P L := by
      rcases HRT.out with ⟨rfl, rfl, rfl, h4⟩ | ⟨d, hst, h4⟩
      · exact .inl ⟨rfl, rfl, rfl, h4⟩
      · exact .inr ⟨d, hst.congr fun n hn => hmv.same (R := P) (fun n hn => (hst.mem n hn).2.2) (by simp) n hn, h4⟩
    have hm2 : Tr.Moved σ P σ1 (P ++ y.pages) := HB.out.perm (List.Perm.refl _) List.perm_append_comm
    have hdo := put1_spec hp (S0 := S1) (σ0 := σ1) key y (HKB.out.alloc (.cells #[.string y.cell.key, .string y.cell.val, .int .i64 y.cell.over, .int .i64 y.cell.size, .int .i64 y.cell.child] 170)) (Bk.new w1 _ _) (HPB.out.alloc _) (hns _ (.inr (.inl rfl))) (hns _ (.inr (.inr rfl))) (hns _ (.inl rfl)) hok
    have hal := alter_any hp key (Tr.put_change key y hyk (Nd.size_le (leaf := true) hok.1).2) (fun l => Tr.put_ne key y l) hdo (hp.off hat1 ((Off.refl [] w1).alloc _) (by simp)) (Off.refl _ _) (Fresh.refl _ _) root hroot hm2.nodup (fun n hn => ⟨rfl, (hok.mem n hn).2.2⟩) (HK.out.imp id (fun _ => by omega))
    have HAL := Lib.hid (hal.mono fun e w' h => RootWay.letters h)
    have HMM := Lib.hid (show Tr.Moved σ P σ1 (P ++ y.pages) ∧ Off S w (w1.alloc (.cells #[.string y.cell.key, .string y.cell.val, .int .i64 y.cell.over, .int .i64 y.cell.size, .int .i64 y.cell.child] 170)) ∧ Fresh w S S1 from ⟨hm2, HOW1.out.alloc _, hfr⟩)
    have HY := Lib.hid (show y.cell.key = key ∧ y.val = val.data.toList ∧ y.pages.length ≤ 1 from ⟨hyk, hyv, hyl⟩)
    clear hw1 hyk hyv hyl hok hmv hat1 hof1 hfr1 hfr hns hroot hm2 hdo hal hq
    go_wp2_with fail
    refine HAL.out.mono ?_
    rintro e w5 ⟨a, b, rfl, hw5⟩
    have HE := Lib.hid ((RootWay.from (k := k) HMM.out.1 (c1 := 1) (by omega) HMM.out.2.1 HMM.out.2.2 hw5.out).more (c' := c0 + 1) (by omega))
    clear hw5
    go_wp2_with fail
    go_ret2
    exact ⟨y, HY.out.1, HY.out.2.1, HY.out.2.2, HE.out⟩
  · have HE := Lib.hid (show PutTells p S σ k c0 P L key val w (.returned (.tuple #[.int .i64 0, .int .i64 9])) (w1.alloc (.cells #[.string c.key, .string c.val, .int .i64 c.over, .int .i64 c.size, .int .i64 c.child] 170)) from
      ⟨⟨⟨key, val, 0, 0, 0⟩, [], val.data.toList⟩, rfl, rfl, by simp, .inr ⟨hF, rfl, σ1, S1, hp.off hat1 ((Off.refl [] w1).alloc _) (by simp), HOW1.out.alloc _, hfr1.mono (by simp; omega)⟩⟩)
    clear hw1 hat1 hof1 hfr1
    go_wp2_with fail
    go_ret2
    exact HE.out
end Go.Proofs.YtjbcbnemdhbhbaaGreatDoor
namespace Go.Proofs.YtjbcbnemdhbhbaaGreatDoor
open Go.RowKit
set_option linter.unusedVariables false
set_option linter.unusedSimpArgs false
namespace Tr
theorem kids_count : ∀ ks : List Kd, (∀ k ∈ ks, k.P.length + 1 ≤ 2 * k.L.length + (k.L.flatMap (·.pages)).length) → (ks.flatMap (·.P)).length + ks.length ≤ 2 * (ks.flatMap (·.L)).length + ((ks.flatMap (·.L)).flatMap (·.pages)).length
  | [], _ => Nat.le_refl _
  | k :: ks, h => by
    have h1 := h k (by simp)
    have h2 := kids_count ks fun x hx => h x (by simp [hx])
    simp only [List.flatMap_cons, List.flatMap_append, List.length_append, List.length_cons] at h2 ⊢
    omega
theorem Stored.count {σ : Book} : ∀ {d no : Nat} {P : List Nat} {L : List En}, Stored σ d no P L → P.length + 1 ≤ 2 * L.length + (L.flatMap (·.pages)).length
  | 0, no, P, L, h => by
    obtain ⟨cs, P', rfl, g1, g2, g3, ⟨-, rfl, -, -⟩, g5, g6, g7⟩ := h
    have : 0 < L.length := List.length_pos_iff.2 g6
    simp only [List.length_cons]
    omega
  | d + 1, no, P, L, h => by
    obtain ⟨cs, P', rfl, g1, g2, g3, ⟨ks, hcs, rfl, rfl, -, -, hks⟩, g5, g6, g7⟩ := h
    have h2 := g7 rfl
    rw [hcs, List.length_map] at h2
    have h3 := kids_count ks fun k hk => Stored.count (d := d) (hks k hk).2
    simp only [List.length_cons]
    omega
theorem pages_le (L : List En) (h : ∀ e ∈ L, e.pages.length ≤ 1) : (L.flatMap (·.pages)).length ≤ L.length := by
  induction L with
  | nil => exact Nat.le_refl _
  | cons e L ih =>
    have h1 := h e (by simp)
    have h2 := ih fun x hx => h x (by simp [hx])
    simp only [List.flatMap_cons, List.length_append, List.length_cons]
    omega
theorem Root.count {σ : Book} {root : Nat} {P : List Nat} {L : List En} (h : Root σ root P L) (hp : ∀ e ∈ L, e.pages.length ≤ 1) : P.length ≤ 3 * L.length := by
  rcases h with ⟨-, rfl, rfl⟩ | ⟨d, h⟩
  · exact Nat.le_refl _
  · have h1 := h.count
    have h2 := pages_le L hp
    omega
theorem putE_len (key : ByteArray) (e : En) (L : List En) : (putE key e L).length ≤ L.length + 1 := by
  unfold putE
  have := spotE_le L key
  simp only [List.length_append, List.length_take, List.length_drop, List.length_cons, List.length_nil]
  split <;> omega
end Tr
end Go.Proofs.YtjbcbnemdhbhbaaGreatDoor
namespace Go.Proofs.YtjbcbnemdhbhbaaGreatDoor
open Go.RowKit
set_option linter.unusedVariables false
set_option linter.unusedSimpArgs false
structure Lv where
  leaf : Bool
  cells : List Ce
  idx : Nat
namespace Tr
structure LfOk (σ : Book) (no : Nat) (L : List En) : Prop where
  page : σ no = some ⟨1, Nd.str true (L.map (·.cell))⟩
  right : Nd.right true (L.map (·.cell)) = true
  sum : Nd.sum true (L.map (·.cell)) ≤ 488
  some : L ≠ []
  rise : Rising L
structure BrOk (σ : Book) (d no : Nat) (ks : List Kd) : Prop where
  page : σ no = some ⟨2, Nd.str false (ks.map Kd.cell)⟩
  right : Nd.right false (ks.map Kd.cell) = true
  sum : Nd.sum false (ks.map Kd.cell) ≤ 488
  two : 2 ≤ ks.length
  sep : Sep (ks.map Kd.rg)
  kids : ∀ k ∈ ks, Stored σ d k.no k.P k.L
theorem Stored.lf {σ : Book} {no : Nat} {P : List Nat} {L : List En} (h : Stored σ 0 no P L) : LfOk σ no L := by
  obtain ⟨cs, P', rfl, g1, g2, g3, hp, g5, g6, g7⟩ := h
  have hr := hp.right.1
  obtain ⟨rfl, h2, h3, h4⟩ := hp
  exact ⟨g3, hr, g5, g6, h3⟩
theorem Stored.br {σ : Book} {d no : Nat} {P : List Nat} {L : List En} (h : Stored σ (d + 1) no P L) : ∃ ks, BrOk σ d no ks ∧ L = ks.flatMap (·.L) := by
  obtain ⟨cs, P', rfl, g1, g2, g3, hp, g5, g6, g7⟩ := h
  have hr := hp.right.1
  obtain ⟨ks, rfl, h2, h3, h4, h5, h6⟩ := hp
  exact ⟨ks, ⟨g3, hr, g5, by have := g7 rfl; rwa [List.length_map] at this, h5, fun k hk => (h6 k hk).2⟩, h3⟩
theorem Stored.some {σ : Book} {d no : Nat} {P : List Nat} {L : List En} (h : Stored σ d no P L) : L ≠ [] := by
  obtain ⟨cs, P', rfl, g1, g2, g3, hp, g5, g6, g7⟩ := h
  exact g6
def On (σ : Book) : Nat → Nat → List En → Nat → List Lv → Prop
  | 0, no, L, i, way => LfOk σ no L ∧ i < L.length ∧ way = [⟨true, L.map (·.cell), i⟩]
  | d + 1, no, L, i, way => ∃ (ks : List Kd) (j i' : Nat) (rest : List Lv) (k : Kd), BrOk σ d no ks ∧ L = ks.flatMap (·.L) ∧ ks[j]? = Option.some k ∧ On σ d k.no k.L i' rest ∧ i = ((ks.take j).flatMap (·.L)).length + i' ∧ way = ⟨false, ks.map Kd.cell, j⟩ :: rest
theorem flat_split {ks : List Kd} {j : Nat} {k : Kd} (h : ks[j]? = Option.some k) : ks.flatMap (·.L) = (ks.take j).flatMap (·.L) ++ (k.L ++ (ks.drop (j + 1)).flatMap (·.L)) := by
  obtain ⟨hj, rfl⟩ := List.getElem?_eq_some_iff.1 h
  have e : ks = ks.take j ++ (ks[j] :: ks.drop (j + 1)) := by rw [← List.drop_eq_getElem_cons hj, List.take_append_drop]
  conv => lhs; rw [e]
  rw [flatMap_app, List.flatMap_cons]
theorem On.lt {σ : Book} : ∀ {d no : Nat} {L : List En} {i : Nat} {way : List Lv}, On σ d no L i way → i < L.length
  | 0, no, L, i, way, h => h.2.1
  | d + 1, no, L, i, way, h => by
    obtain ⟨ks, j, i', rest, k, h1, rfl, h3, h4, rfl, rfl⟩ := h
    have := On.lt h4
    rw [flat_split h3]
    simp only [List.length_append]
    omega
theorem On.len {σ : Book} : ∀ {d no : Nat} {L : List En} {i : Nat} {way : List Lv}, On σ d no L i way → way.length = d + 1
  | 0, no, L, i, way, h => by rw [h.2.2]; rfl
  | d + 1, no, L, i, way, h => by
    obtain ⟨ks, j, i', rest, k, h1, rfl, h3, h4, rfl, rfl⟩ := h
    rw [List.length_cons, On.len h4]
theorem On.last {σ : Book} : ∀ {d no : Nat} {L : List En} {i : Nat} {way : List Lv}, On σ d no L i way → ∃ pre cs a, way = pre ++ [⟨true, cs, a⟩] ∧ cs[a]? = (L[i]?).map (·.cell)
  | 0, no, L, i, way, h => ⟨[], _, i, h.2.2, by rw [List.getElem?_map]⟩
  | d + 1, no, L, i, way, h => by
    obtain ⟨ks, j, i', rest, k, h1, rfl, h3, h4, rfl, rfl⟩ := h
    obtain ⟨pre, cs, a, rfl, hc⟩ := On.last h4
    refine ⟨_ :: pre, cs, a, rfl, ?_⟩
    rw [hc, flat_split h3, List.getElem?_append_right (Nat.le_add_right _ _), Nat.add_sub_cancel_left, List.getElem?_append_left (On.lt h4)]
theorem On.idx {σ : Book} : ∀ {d no : Nat} {L : List En} {i : Nat} {way : List Lv}, On σ d no L i way → ∀ x ∈ way, x.idx < x.cells.length
  | 0, no, L, i, way, h, x, hx => by
    rw [h.2.2, List.mem_singleton] at hx
    subst hx
    rw [List.length_map]
    exact h.2.1
  | d + 1, no, L, i, way, h, x, hx => by
    obtain ⟨ks, j, i', rest, k, h1, rfl, h3, h4, rfl, rfl⟩ := h
    rcases List.mem_cons.1 hx with rfl | hx
    · rw [List.length_map]
      exact (List.getElem?_eq_some_iff.1 h3).1
    · exact On.idx h4 x hx
def Dn (σ : Book) (ch : List Ce → Nat) (d no : Nat) (L : List En) (i : Nat) (way : List Lv) : Prop := On σ d no L i way ∧ ∀ x ∈ way, x.idx = ch x.cells
end Tr
end Go.Proofs.YtjbcbnemdhbhbaaGreatDoor

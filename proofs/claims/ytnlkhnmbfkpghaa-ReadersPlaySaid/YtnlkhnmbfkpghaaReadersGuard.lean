/- Walk of the law ReadersGuard. -/
import Derived.Test.YtnlkhnmbfkpghaaReadersNil
namespace Go.Proofs.Ytnlkhnmbfkpghaa
open Go.RowKit
open Go.PlainAid
set_option maxRecDepth 100000
set_option linter.unusedVariables false
set_option linter.unusedSimpArgs false

/-- What an Enter comes to. -/
theorem enter_cases (s : St) (n : Int) : ((s.enter n).1 = s ∧ ((s.enter n).2.2 = 1 ∨ (s.enter n).2.2 = 9)) ∨
    ((s.enter n).2.2 = 0 ∧ (s.enter n).1.leave (s.enter n).2.1 = (s, 0) ∧ s.leave (s.enter n).2.1 = (s, 7) ∧ ∀ now, (s.enter n).1.oldest now = min (s.oldest now) n) := by
  simp only [St.oldest_eq]
  cases hr : inRange n with
  | false =>
    have e : s.enter n = (s, 0, 1) := by unfold St.enter; rw [hr]; rfl
    rw [e]
    exact .inl ⟨rfl, .inl rfl⟩
  | true =>
    obtain ⟨a, b, c, d⟩ := s
    cases a with
    | none =>
      have e : St.enter ⟨none, b, c, d⟩ n = (⟨some n, b, c, d⟩, 0, 0) := by unfold St.enter; rw [hr]; rfl
      rw [e]
      exact .inr ⟨rfl, rfl, rfl, fun now => by simp [St.live, least]; omega⟩
    | some a =>
      cases b with
      | none =>
        have e : St.enter ⟨some a, none, c, d⟩ n = (⟨some a, some n, c, d⟩, 1, 0) := by unfold St.enter; rw [hr]; rfl
        rw [e]
        exact .inr ⟨rfl, rfl, rfl, fun now => by simp [St.live, least]; omega⟩
      | some b =>
        cases c with
        | none =>
          have e : St.enter ⟨some a, some b, none, d⟩ n = (⟨some a, some b, some n, d⟩, 2, 0) := by unfold St.enter; rw [hr]; rfl
          rw [e]
          exact .inr ⟨rfl, rfl, rfl, fun now => by simp [St.live, least]; omega⟩
        | some c =>
          cases d with
          | none =>
            have e : St.enter ⟨some a, some b, some c, none⟩ n = (⟨some a, some b, some c, some n⟩, 3, 0) := by unfold St.enter; rw [hr]; rfl
            rw [e]
            exact .inr ⟨rfl, rfl, rfl, fun now => by simp [St.live, least]; omega⟩
          | some d =>
            have e : St.enter ⟨some a, some b, some c, some d⟩ n = (⟨some a, some b, some c, some d⟩, 0, 9) := by unfold St.enter; rw [hr]; rfl
            rw [e]
            exact .inl ⟨rfl, .inr rfl⟩

/-- Acts in memory: kinds and numbers. -/
def ActsAt (w : World) (A : Option Addr) (n : Nat) (K N : Nat → Int) : Prop :=
  ∀ i, i < n → ∃ b o, A = some ⟨b, o, none⟩ ∧ b < w.heap.size ∧ w.cell? ⟨b, o + i * 2, none⟩ = some (.int .i64 (K i)) ∧ w.cell? ⟨b, o + i * 2 + 1, none⟩ = some (.int .i64 (N i))
theorem ActsAt.below {w w' : World} {A : Option Addr} {n : Nat} {K N : Nat → Int} (h : ActsAt w A n K N) (hb : Below w.heap.size w w') : ActsAt w' A n K N := by
  intro i hi
  obtain ⟨b, o, hA, hlt, h1, h2⟩ := h i hi
  exact ⟨b, o, hA, Nat.lt_of_lt_of_le hlt hb.size, (hb.cell (p := ⟨b, o + i * 2, none⟩) hlt).trans h1, (hb.cell (p := ⟨b, o + i * 2 + 1, none⟩) hlt).trans h2⟩

/-- Where Guard's loop stands. -/
def GuardAt (w : World) (g n k : Nat) (wr : World) : Prop := ∃ s : St, k ≤ n ∧ k ≤ 60 ∧ Bk wr g 47 s.cells ∧ Below w.heap.size w wr

theorem GuardAt.mk {w : World} {g n k : Nat} {wr : World} (s : St) (h1 : k ≤ n) (h2 : k ≤ 60) (h3 : Bk wr g 47 s.cells) (h4 : Below w.heap.size w wr) : GuardAt w g n k wr := ⟨s, h1, h2, h3, h4⟩

set_option maxHeartbeats 8000000 in
theorem readersGuard_walk (A : Option Addr) (n cap : Nat) (K N : Nat → Int) (txn now : Int) (w : World) (hn : n ≤ maxLen) (hA : ActsAt w A n K N) (_ : (Lit.int .i64 txn).wf = true) (_ : (Lit.int .i64 now).wf = true) :
    Calls Try.prog 3 #[.slice A n cap, .int .i64 txn, .int .i64 now] w (Holds w) := by
  unfold maxLen at hn
  have HA := Lib.hid (rawake_any w)
  have HAC := Lib.hid hA
  clear hA
  go_enter Try.func3, Try.ntmps3
  go_wp2_with fail
  refine HA.out.mono ?_
  rintro e w1 ⟨rfl, hb1⟩
  have X1 := Lib.hid hb1
  have hg1 := hb1.size
  clear hb1
  have H0 := Lib.hid (rdnew_any w1)
  go_wp2_with fail
  refine H0.out.mono ?_
  rintro e w2 ⟨rfl, hk2, hb2⟩
  have HS := Lib.hid (show GuardAt w w1.heap.size n 0 w2 from ⟨St.empty, by omega, by omega, hk2, X1.out.trans (hb2.mono X1.out.size)⟩)
  generalize w1.heap.size = g at *
  clear hk2 hb2 H0 X1 HA
  go_wp2_with fail
  go_loopw [8] (fun i wr => ∃ k : Nat, i = .int .i64 k ∧ GuardAt w g n k wr) (fun i _ => 60 - (intOf i).toNat)
  case atStart => exact ⟨0, rfl, HS.out⟩
  case round =>
    clear HS
    obtain ⟨k, rfl, s, hk, hk60, hbk, hbl⟩ := hrel
    have HBK := Lib.hid hbk
    have HBL := Lib.hid hbl
    clear hbk hbl
    have hcs : (k < n ∧ k < 60) ∨ (¬ k < n) ∨ (k < n ∧ ¬ k < 60) := by omega
    rcases hcs with ⟨h1, h2⟩ | hx | ⟨hx, hy⟩
    · obtain ⟨b, o, rfl, hlt, c0, c1⟩ := (HAC.out.below HBL.out) k h1
      have HE := Lib.hid fun W hW => enter_any g (N k) s W hW
      have HL := Lib.hid fun W hW => leave_any g (N k) s W hW
      generalize K k = kk at *
      generalize N k = nn at *
      have hq : ((kk == 1) = true) ∨ ((kk == 1) = false ∧ (kk == 2) = true) ∨ ((kk == 1) = false ∧ (kk == 2) = false) := by
        cases (kk == 1) <;> cases (kk == 2) <;> simp
      have i1 : (0 : Int) ≤ (k : Int) := by omega
      rcases hq with q1 | ⟨q1, q2⟩ | ⟨q1, q2⟩
      · go_wp2_with fail
        refine (HE.out _ HBK.out).mono ?_
        rintro e w5 ⟨rfl, hk5, ho5⟩
        have hb5 := below_off HBL.out ho5 (by simp; omega)
        have HR := Lib.hid (GuardAt.mk (n := n) (k := k + 1) _ (by omega) (by omega) hk5 hb5)
        clear hk5 ho5 hb5
        go_wp2_with fail
        go_roundw
        case rel => exact ⟨k + 1, by go_num, HR.out⟩
        case measure => simp [intOf]; omega
      · go_wp2_with fail
        refine (HL.out _ HBK.out).mono ?_
        rintro e w5 ⟨rfl, hk5, ho5⟩
        have hb5 := below_off HBL.out ho5 (by simp; omega)
        have HR := Lib.hid (GuardAt.mk (n := n) (k := k + 1) _ (by omega) (by omega) hk5 hb5)
        clear hk5 ho5 hb5
        go_wp2_with fail
        go_roundw
        case rel => exact ⟨k + 1, by go_num, HR.out⟩
        case measure => simp [intOf]; omega
      · go_wp2_with fail
        go_roundw
        case rel => exact ⟨k + 1, by go_num, GuardAt.mk s (by omega) (by omega) HBK.out HBL.out⟩
        case measure => simp [intOf]; omega
    all_goals
      have HO := fun W hW => oldest_any g now s W hW
      have HE := fun W hW => enter_any g txn s W hW
      have hec := enter_cases s txn
      obtain ⟨s', hs'⟩ : ∃ s', (s.enter txn).1 = s' := ⟨_, rfl⟩
      obtain ⟨i, hi⟩ : ∃ i, (s.enter txn).2.1 = i := ⟨_, rfl⟩
      obtain ⟨ee, he⟩ : ∃ ee, (s.enter txn).2.2 = ee := ⟨_, rfl⟩
      rw [hs', hi, he] at HE hec
      clear hs' hi he
      have HO2 := fun W hW => oldest_any g now s' W hW
      have HL1 := fun W hW => leave_any g i s' W hW
      have HL2 := fun W hW => leave_any g i s W hW
      have hec2 : (s' = s ∧ (ee = 1 ∨ ee = 9)) ∨ (ee = 0 ∧ s'.leave i = (s, 0) ∧ s.leave i = (s, 7) ∧ s'.oldest now = min (s.oldest now) txn) := by
        rcases hec with h | ⟨a1, a2, a3, a4⟩
        · exact .inl h
        · exact .inr ⟨a1, a2, a3, a4 now⟩
      clear hec
      rcases hec2 with ⟨rfl, hee⟩ | ⟨rfl, e1, e2, e3⟩
      · generalize s'.oldest now = old at *
        have G1 := Lib.hid HO
        have G2 := Lib.hid HE
        clear HO HE HO2 HL1 HL2
        have qe : (ee == 0) = false := by simp; omega
        have qe2 : (ee != 0) = true := by simp; omega
        go_wp2_with fail
        refine (G1.out _ HBK.out).mono ?_
        rintro e w5 ⟨rfl, hb5⟩
        have X5 := Lib.hid (HBL.out.trans (hb5.mono HBL.out.size))
        have K5 := Lib.hid (bk_below HBK.out hb5)
        clear hb5
        go_wp2_with fail
        refine (G2.out _ K5.out).mono ?_
        rintro e w6 ⟨rfl, hk6, ho6⟩
        have X6 := Lib.hid (below_off X5.out ho6 (by simp; omega))
        have K6 := Lib.hid hk6
        clear hk6 ho6
        go_wp2_with fail
        refine (G1.out _ K6.out).mono ?_
        rintro e w7 ⟨rfl, hb7⟩
        have X7 := Lib.hid (X6.out.trans (hb7.mono X6.out.size))
        clear hb7
        go_wp2_with fail
        go_ret
        exact ⟨by first | rfl | (simp; done), X7.out⟩
      · rw [e3] at HO2
        rw [e1] at HL1
        rw [e2] at HL2
        generalize s.oldest now = old at *
        have G1 := Lib.hid HO
        have G2 := Lib.hid HE
        have G3 := Lib.hid HO2
        have G4 := Lib.hid HL1
        have G5 := Lib.hid HL2
        clear HO HE HO2 HL1 HL2 e1 e2 e3
        go_wp2_with fail
        refine (G1.out _ HBK.out).mono ?_
        rintro e w5 ⟨rfl, hb5⟩
        have X5 := Lib.hid (HBL.out.trans (hb5.mono HBL.out.size))
        have K5 := Lib.hid (bk_below HBK.out hb5)
        clear hb5
        go_wp2_with fail
        refine (G2.out _ K5.out).mono ?_
        rintro e w6 ⟨rfl, hk6, ho6⟩
        have X6 := Lib.hid (below_off X5.out ho6 (by simp; omega))
        have K6 := Lib.hid hk6
        clear hk6 ho6
        go_wp2_with fail
        refine (G3.out _ K6.out).mono ?_
        rintro e w7 ⟨rfl, hb7⟩
        have X7 := Lib.hid (X6.out.trans (hb7.mono X6.out.size))
        have K7 := Lib.hid (bk_below K6.out hb7)
        clear hb7
        go_wp2_with fail
        refine (G4.out _ K7.out).mono ?_
        rintro e w8 ⟨rfl, hk8, ho8⟩
        have X8 := Lib.hid (below_off X7.out ho8 (by simp; omega))
        have K8 := Lib.hid hk8
        clear hk8 ho8
        go_wp2_with fail
        refine (G1.out _ K8.out).mono ?_
        rintro e w9 ⟨rfl, hb9⟩
        have X9 := Lib.hid (X8.out.trans (hb9.mono X8.out.size))
        have K9 := Lib.hid (bk_below K8.out hb9)
        clear hb9
        go_wp2_with fail
        refine (G5.out _ K9.out).mono ?_
        rintro e w10 ⟨rfl, hk10, ho10⟩
        have X10 := Lib.hid (below_off X9.out ho10 (by simp; omega))
        clear hk10 ho10
        go_wp2_with fail
        go_ret
        exact ⟨by first | rfl | (simp; done), X10.out⟩
end Go.Proofs.Ytnlkhnmbfkpghaa

/- Merged by program: HeapA PlainCount PlainCursor. -/
import Derived.Test.YtllafbcnikoohaaC5
import Derived.Deep.CutBlock
import Derived.Test.YtllafbcnikoohaaC12
/- A heap of pages as a Store: what it is in memory; Load, Drop. -/
namespace Go.Proofs.Ytllafbcnikoohaa
open Go.RowKit
set_option maxRecDepth 100000
set_option linter.unusedVariables false
set_option linter.unusedSimpArgs false
/-- How many pages are free. -/
def freeN (σ : Book) : Nat := ((List.range 512).filter fun i => i != 0 && (σ i).isNone).length
theorem freeN_upd (σ : Book) (n : Nat) (x : Pgg) (h1 : 1 ≤ n) (h2 : n < 512) (h : σ n = none) : freeN σ = freeN (Tr.upd σ n (some x)) + 1 := by
  have hn : n ∈ List.range 512 := List.mem_range.2 h2
  obtain ⟨a, b, hab⟩ := List.append_of_mem hn
  have hnd : (a ++ n :: b).Nodup := hab ▸ List.nodup_range
  have ha : ∀ i ∈ a, i ≠ n := fun i hi e => by
    subst e
    exact (List.nodup_append.1 hnd).2.2 i hi i (by simp) rfl
  have hb : ∀ i ∈ b, i ≠ n := fun i hi e => by
    subst e
    exact (List.nodup_cons.1 (List.nodup_append.1 hnd).2.1).1 hi
  unfold freeN
  rw [hab, List.filter_append, List.filter_append, List.filter_cons, List.filter_cons]
  have e1 : ∀ l : List Nat, (∀ i ∈ l, i ≠ n) → l.filter (fun i => i != 0 && (Tr.upd σ n (some x) i).isNone) = l.filter (fun i => i != 0 && (σ i).isNone) := fun l hl => List.filter_congr fun i hi => by rw [Tr.upd_ne σ _ (hl i hi)]
  rw [e1 a ha, e1 b hb, Tr.upd_same, h]
  have hz : (n != 0) = true := by simp; omega
  simp [hz]
  omega
theorem freeN_drop (σ : Book) (n : Nat) : freeN σ ≤ freeN (Tr.upd σ n none) := by
  unfold freeN
  refine (List.Sublist.length_le ?_)
  have : (List.range 512).filter (fun i => i != 0 && (σ i).isNone) = ((List.range 512).filter (fun i => i != 0 && (Tr.upd σ n none i).isNone)).filter (fun i => (σ i).isNone) := by
    rw [List.filter_filter]
    refine List.filter_congr fun i _ => ?_
    by_cases h : i = n
    · subst h; rw [Tr.upd_same]; cases (σ i).isNone <;> cases (i != 0) <;> rfl
    · rw [Tr.upd_ne σ _ h]; cases (σ i).isNone <;> cases (i != 0) <;> rfl
  rw [this]
  exact List.filter_sublist
theorem freeN_some {σ : Book} (h : 1 ≤ freeN σ) : ∃ n, 1 ≤ n ∧ n < 512 ∧ σ n = none := by
  unfold freeN at h
  cases hl : (List.range 512).filter (fun i => i != 0 && (σ i).isNone) with
  | nil => rw [hl] at h; simp at h
  | cons n l =>
    have hm : n ∈ (List.range 512).filter (fun i => i != 0 && (σ i).isNone) := by rw [hl]; simp
    rw [List.mem_filter] at hm
    have h2 := List.mem_range.1 hm.1
    have h3 := hm.2
    simp at h3
    exact ⟨n, by omega, h2, h3.2⟩
/-- A heap at block h: its row of pages at p, its row of truths at u. -/
structure HeapIs (w : World) (h p u : Nat) (σ : Book) (m : Int) (cs us : Array Value) : Prop where
  top : Bk w h 81 #[.slice (some ⟨p, 0, none⟩) 512 512, .slice (some ⟨u, 0, none⟩) 512 512, .bool false, .int .i64 512, .int .i64 m, .bool false]
  pages : Bk w p 113 cs
  used : Bk w u 4 us
  psz : cs.size = 2048
  usz : us.size = 512
  page : ∀ n, n < 512 → ∃ (k a b : Int) (s : ByteArray), cs[n * 4]? = some (.int .i64 k) ∧ cs[n * 4 + 1]? = some (.int .i64 a) ∧ cs[n * 4 + 2]? = some (.int .i64 b) ∧ cs[n * 4 + 3]? = some (.string s) ∧ ∀ x, σ n = some x → k = x.kind ∧ s = x.body
  truth : ∀ n, n < 512 → us[n]? = some (.bool (σ n).isSome)
  dom : ∀ n x, σ n = some x → 1 ≤ n ∧ n < 512 ∧ 1 ≤ x.kind ∧ x.kind ≤ 3
/-- The heap as pages. -/
def heapStore (h : Nat) : Store where
  T := 24
  v := .pointer (some ⟨h, 0, none⟩)
  At w S σ k := ∃ (p u : Nat) (m : Int) (cs us : Array Value), S = [h, p, u] ∧ HeapIs w h p u σ m cs us ∧ k ≤ freeN σ
  F := False
theorem HeapIs.off {w w' : World} {h p u : Nat} {σ : Book} {m : Int} {cs us : Array Value} {U : List Nat} (hh : HeapIs w h p u σ m cs us) (ho : Off U w w') (hd : ∀ b ∈ [h, p, u], b ∉ U) : HeapIs w' h p u σ m cs us :=
  ⟨ho.bk hh.top (hd h (by simp)), ho.bk hh.pages (hd p (by simp)), ho.bk hh.used (hd u (by simp)), hh.psz, hh.usz, hh.page, hh.truth, hh.dom⟩
theorem HeapIs.ne {w : World} {h p u : Nat} {σ : Book} {m : Int} {cs us : Array Value} (hh : HeapIs w h p u σ m cs us) : h ≠ p ∧ h ≠ u ∧ p ≠ u :=
  ⟨hh.top.ne hh.pages (by decide), hh.top.ne hh.used (by decide), hh.pages.ne hh.used (by decide)⟩
set_option maxHeartbeats 8000000 in
theorem heap_load {w : World} {h p u : Nat} {σ : Book} {m : Int} {cs us : Array Value} (hh : HeapIs w h p u σ m cs us) (no : Nat) (x : Pgg) (hx : σ no = some x) :
    Calls Try.prog 98 #[.pointer (some ⟨h, 0, none⟩), .int .i64 no] w (fun e w' => Below w.heap.size w w' ∧ ∃ a b : Int, e = .returned (.tuple #[.agg #[.int .i64 x.kind, .int .i64 a, .int .i64 b, .string x.body], .int .i64 0])) := by
  obtain ⟨d1, d2, d3, d4⟩ := hh.dom no x hx
  obtain ⟨k, a, b, s, c0, c1, c2, c3, hks⟩ := hh.page no d2
  obtain ⟨rfl, rfl⟩ := hks x hx
  have t0 := hh.top.cell 0
  have t1 := hh.top.cell 1
  have l0 := hh.top.lt
  have l1 := hh.pages.lt
  have p0 := (hh.pages.cell (no * 4)).trans c0
  have p1 := (hh.pages.cell (no * 4 + 1)).trans c1
  have p2 := (hh.pages.cell (no * 4 + 2)).trans c2
  have p3 := (hh.pages.cell (no * 4 + 3)).trans c3
  have z1 : decide ((no : Int) < 1) = false := decide_eq_false (by omega)
  have z2 : decide ((512 : Int) ≤ (no : Int)) = false := decide_eq_false (by omega)
  have z3 : ((x.kind : Int) == 0) = false := by rw [beq_eq_false_iff_ne]; omega
  clear hks hh hx c0 c1 c2 c3
  go_enter Try.func98, Try.ntmps98
  go_wp2_with fail
  refine bodyPost_ret (v := .tuple #[.agg #[.int .i64 x.kind, .int .i64 a, .int .i64 b, .string x.body], .int .i64 0]) (by simp [results, Try.results98, go_sem]) rfl ⟨(Below.refl _ w).alloc (Nat.le_refl _) _, a, b, rfl⟩
theorem HeapIs.drop {w : World} {h p u : Nat} {σ : Book} {m : Int} {cs us : Array Value} (hh : HeapIs w h p u σ m cs us) (no : Nat) : HeapIs (w.setCell ⟨u, no, none⟩ (.bool false)) h p u (Tr.upd σ no none) m cs (us.setIfInBounds no (.bool false)) := by
  obtain ⟨n1, n2, n3⟩ := hh.ne
  refine ⟨hh.top.far n2 _, hh.pages.far n3 _, hh.used.put no _, hh.psz, by rw [Array.size_setIfInBounds]; exact hh.usz, fun n hn => ?_, fun n hn => ?_, fun n x hx => ?_⟩
  · obtain ⟨k, a, b, s, c0, c1, c2, c3, h4⟩ := hh.page n hn
    refine ⟨k, a, b, s, c0, c1, c2, c3, fun x hx => h4 x ?_⟩
    unfold Tr.upd at hx
    split at hx
    · cases hx
    · exact hx
  · rw [Array.getElem?_setIfInBounds]
    by_cases hno : no = n
    · subst hno
      rw [if_pos rfl, if_pos (by rw [hh.usz]; exact hn), Tr.upd_same]
      rfl
    · rw [if_neg hno, hh.truth n hn, Tr.upd_ne σ _ (fun h => hno h.symm)]
  · unfold Tr.upd at hx
    split at hx
    · cases hx
    · exact hh.dom n x hx
set_option maxHeartbeats 8000000 in
theorem heap_drop {w : World} {h p u : Nat} {σ : Book} {m : Int} {cs us : Array Value} (hh : HeapIs w h p u σ m cs us) (no : Nat) (hx : σ no ≠ none) :
    Calls Try.prog 97 #[.pointer (some ⟨h, 0, none⟩), .int .i64 no] w (fun e w' => e = .returned (.int .i64 0) ∧ Off [h, p, u] w w' ∧ ∃ us', HeapIs w' h p u (Tr.upd σ no none) m cs us') := by
  obtain ⟨x, hx⟩ := Option.ne_none_iff_exists'.1 hx
  obtain ⟨d1, d2, d3, d4⟩ := hh.dom no x hx
  have t1 := hh.top.cell 1
  have l0 := hh.top.lt
  have l1 := hh.used.lt
  have f1 := hh.used.frozen no
  have u1 := (hh.used.cell no).trans (hh.truth no d2)
  rw [hx] at u1
  simp only [Option.isSome_some] at u1
  have z1 : decide ((no : Int) < 1) = false := decide_eq_false (by omega)
  have z2 : decide ((512 : Int) ≤ (no : Int)) = false := decide_eq_false (by omega)
  have HH := Lib.hid hh
  have HX := Lib.hid hx
  clear hh hx
  go_enter Try.func97, Try.ntmps97
  go_wp2_with fail
  go_ret
  exact ⟨rfl, (Off.refl _ _).setCell (.inl (by simp)) _, _, HH.out.drop no⟩
theorem HeapIs.make {w : World} {h p u : Nat} {σ : Book} {m : Int} {cs us : Array Value} (hh : HeapIs w h p u σ m cs us) (at' : Nat) (x : Pgg) (m' : Int) (h1 : 1 ≤ at') (h2 : at' < 512) (hk1 : 1 ≤ x.kind) (hk3 : x.kind ≤ 3) :
    ∃ cs' us', HeapIs ((((((w.setCell ⟨p, at' * 4, none⟩ (.int .i64 x.kind)).setCell ⟨p, at' * 4 + 1, none⟩ (.int .i64 at')).setCell ⟨p, at' * 4 + 2, none⟩ (.int .i64 0)).setCell ⟨p, at' * 4 + 3, none⟩ (.string x.body)).setCell ⟨u, at', none⟩ (.bool true)).setCell ⟨h, 4, none⟩ (.int .i64 m')) h p u (Tr.upd σ at' (some x)) m' cs' us' := by
  obtain ⟨n1, n2, n3⟩ := hh.ne
  refine ⟨_, _, ((((((hh.top.far n1 _).far n1 _).far n1 _).far n1 _).far n2 _).put 4 _), (((((hh.pages.put (at' * 4) _).put (at' * 4 + 1) _).put (at' * 4 + 2) _).put (at' * 4 + 3) _).far n3 _).far (Ne.symm n1) _, (((((hh.used.far (Ne.symm n3) _).far (Ne.symm n3) _).far (Ne.symm n3) _).far (Ne.symm n3) _).put at' _).far (Ne.symm n2) _, by simp [hh.psz], by simp [hh.usz], fun n hn => ?_, fun n hn => ?_, fun n y hy => ?_⟩
  · by_cases hno : n = at'
    · subst hno
      refine ⟨x.kind, n, 0, x.body, ?_, ?_, ?_, ?_, fun y hy => ?_⟩
      · simp [Array.getElem?_setIfInBounds, hh.psz]; omega
      · simp [Array.getElem?_setIfInBounds, hh.psz]; omega
      · simp [Array.getElem?_setIfInBounds, hh.psz]; omega
      · simp [Array.getElem?_setIfInBounds, hh.psz]; omega
      · rw [Tr.upd_same] at hy
        injection hy with hy
        subst hy
        exact ⟨rfl, rfl⟩
    · obtain ⟨k, a, b, s, c0, c1, c2, c3, h4⟩ := hh.page n hn
      refine ⟨k, a, b, s, ?_, ?_, ?_, ?_, fun y hy => h4 y (by rwa [Tr.upd_ne σ _ hno] at hy)⟩
      · rw [Array.getElem?_setIfInBounds, if_neg (by omega), Array.getElem?_setIfInBounds, if_neg (by omega), Array.getElem?_setIfInBounds, if_neg (by omega), Array.getElem?_setIfInBounds, if_neg (by omega)]; exact c0
      · rw [Array.getElem?_setIfInBounds, if_neg (by omega), Array.getElem?_setIfInBounds, if_neg (by omega), Array.getElem?_setIfInBounds, if_neg (by omega), Array.getElem?_setIfInBounds, if_neg (by omega)]; exact c1
      · rw [Array.getElem?_setIfInBounds, if_neg (by omega), Array.getElem?_setIfInBounds, if_neg (by omega), Array.getElem?_setIfInBounds, if_neg (by omega), Array.getElem?_setIfInBounds, if_neg (by omega)]; exact c2
      · rw [Array.getElem?_setIfInBounds, if_neg (by omega), Array.getElem?_setIfInBounds, if_neg (by omega), Array.getElem?_setIfInBounds, if_neg (by omega), Array.getElem?_setIfInBounds, if_neg (by omega)]; exact c3
  · rw [Array.getElem?_setIfInBounds]
    by_cases hno : at' = n
    · subst hno
      rw [if_pos rfl, if_pos (by rw [hh.usz]; exact hn), Tr.upd_same]
      rfl
    · rw [if_neg hno, hh.truth n hn, Tr.upd_ne σ _ (fun h => hno h.symm)]
  · by_cases hno : n = at'
    · subst hno
      rw [Tr.upd_same] at hy
      injection hy with hy
      subst hy
      exact ⟨h1, h2, hk1, hk3⟩
    · rw [Tr.upd_ne σ _ hno] at hy
      exact hh.dom n y hy
set_option maxHeartbeats 8000000 in
theorem heap_make {w : World} {h p u : Nat} {σ : Book} {m : Int} {cs us : Array Value} (hh : HeapIs w h p u σ m cs us) (hf : 1 ≤ freeN σ) (x : Pgg) (hk1 : 1 ≤ x.kind) (hk3 : x.kind ≤ 3) :
    Calls Try.prog 99 #[.pointer (some ⟨h, 0, none⟩), .int .i64 x.kind, .string x.body] w (fun e w' => ∃ n : Nat, e = .returned (.tuple #[.int .i64 n, .int .i64 0]) ∧ 1 ≤ n ∧ n < 512 ∧ σ n = none ∧ Off [h, p, u] w w' ∧ ∃ m' cs' us', HeapIs w' h p u (Tr.upd σ n (some x)) m' cs' us') := by
  obtain ⟨n0, hn1, hn2, hn3⟩ := freeN_some hf
  have t0 := hh.top.cell 0
  have t1 := hh.top.cell 1
  have t2 := hh.top.cell 2
  have t3 := hh.top.cell 3
  have t4 := hh.top.cell 4
  have l0 := hh.top.lt
  have l1 := hh.used.lt
  have l2 := hh.pages.lt
  have f4 := hh.top.frozen 4
  obtain ⟨e1, e2, e3⟩ := hh.ne
  have HH := Lib.hid hh
  have HU := Lib.hid fun (j : Nat) (hj : j < 512) => (hh.used.cell j).trans (hh.truth j hj)
  have HF := Lib.hid fun (i : Nat) => hh.used.frozen i
  have HP := Lib.hid fun (i : Nat) => hh.pages.frozen i
  have HC := Lib.hid (show ∀ n, n < 512 → ∃ (k a b : Int) (s : ByteArray), w.cell? ⟨p, n * 4, none⟩ = some (.int .i64 k) ∧ w.cell? ⟨p, n * 4 + 1, none⟩ = some (.int .i64 a) ∧ w.cell? ⟨p, n * 4 + 2, none⟩ = some (.int .i64 b) ∧ w.cell? ⟨p, n * 4 + 3, none⟩ = some (.string s) from fun n hn => by
    obtain ⟨k, a, b, s, c0, c1, c2, c3, -⟩ := hh.page n hn
    exact ⟨k, a, b, s, (hh.pages.cell _).trans c0, (hh.pages.cell _).trans c1, (hh.pages.cell _).trans c2, (hh.pages.cell _).trans c3⟩)
  have HX := Lib.hid (show 1 ≤ x.kind ∧ x.kind ≤ 3 from ⟨hk1, hk3⟩)
  clear hh hf hk1 hk3
  go_enter Try.func99, Try.ntmps99
  go_wp2_with fail
  go_loopw [8, 9, 10] (fun c a i wr => wr = w ∧ ∃ (j c' a' : Nat), i = .int .i64 j ∧ c = .int .i64 c' ∧ a = .int .i64 a' ∧ 1 ≤ j ∧ j ≤ 512 ∧ c' < j ∧ ((a' = 0 ∧ ∀ q, 1 ≤ q → q < j → σ q ≠ none) ∨ (1 ≤ a' ∧ a' < j ∧ σ a' = none))) (fun _ _ i _ => 512 - (intOf i).toNat)
  case atStart => exact ⟨rfl, 1, 0, 0, rfl, rfl, rfl, Nat.le_refl _, by omega, by omega, .inl ⟨rfl, fun q h1 h2 => by omega⟩⟩
  case round =>
    obtain ⟨rfl, j, c', a', rfl, rfl, rfl, j1, j2, jc, ja⟩ := hrel
    by_cases hlt : j < 512
    · have z1 : decide ((j : Int) < 512) = true := decide_eq_true (by omega)
      have z2 : decide (j < 512) = true := decide_eq_true hlt
      have u1 := HU.out j hlt
      cases hσ : σ j with
      | some y =>
        rw [hσ] at u1
        simp only [Option.isSome_some] at u1
        have HJ := Lib.hid ja
        have HS := Lib.hid hσ
        clear ja hσ
        go_wp2_with fail
        go_roundw
        case rel =>
          refine ⟨trivial, j + 1, c' + 1, a', by go_num, by go_num, rfl, by omega, by omega, by omega, ?_⟩
          rcases HJ.out with ⟨rfl, h9⟩ | ⟨h8, h9, h10⟩
          · refine .inl ⟨rfl, fun q q1 q2 => ?_⟩
            by_cases hq : q = j
            · subst hq; rw [HS.out]; simp
            · exact h9 q q1 (by omega)
          · exact .inr ⟨h8, by omega, h10⟩
        case measure => simp [intOf]; omega
      | none =>
        rw [hσ] at u1
        simp only [Option.isSome_none] at u1
        rcases ja with ⟨rfl, ja⟩ | ⟨a1, a2, a3⟩
        · have HS := Lib.hid hσ
          clear ja hσ
          go_wp2_with fail
          go_roundw
          case rel => exact ⟨trivial, j + 1, c', j, by go_num, rfl, rfl, by omega, by omega, by omega, .inr ⟨j1, by omega, HS.out⟩⟩
          case measure => simp [intOf]; omega
        · have z3 : ((a' : Int) == 0) = false := by rw [beq_eq_false_iff_ne]; omega
          have z4 : (a' == 0) = false := by rw [beq_eq_false_iff_ne]; omega
          have HS := Lib.hid a3
          clear a3 hσ
          go_wp2_with fail
          go_roundw
          case rel => exact ⟨trivial, j + 1, c', a', by go_num, rfl, rfl, by omega, by omega, by omega, .inr ⟨a1, by omega, HS.out⟩⟩
          case measure => simp [intOf]; omega
    · have z1 : decide ((j : Int) < 512) = false := decide_eq_false (by omega)
      have z2 : decide (j < 512) = false := decide_eq_false hlt
      rcases ja with ⟨rfl, ja⟩ | ⟨a1, a2, a3⟩
      · exact absurd hn3 (ja n0 hn1 (by omega))
      have z3 : ((a' : Int) == 0) = false := by rw [beq_eq_false_iff_ne]; omega
      have z4 : (a' == 0) = false := by rw [beq_eq_false_iff_ne]; omega
      have z5 : decide ((512 : Int) ≤ (c' : Int)) = false := decide_eq_false (by omega)
      have z6 : decide (512 ≤ c') = false := decide_eq_false (by omega)
      have hlt' : a' < 512 := by omega
      have p0 := HP.out (a' * 4)
      have p1 := HP.out (a' * 4 + 1)
      have p2 := HP.out (a' * 4 + 2)
      have p3 := HP.out (a' * 4 + 3)
      have u0 := HF.out a'
      have u1 := HU.out a' hlt'
      obtain ⟨k9, a9, b9, s9, q0, q1, q2, q3⟩ := HC.out a' hlt'
      have HS := Lib.hid a3
      clear a3
      go_wp2_with fail
      go_ret2
      exact ⟨a', rfl, a1, hlt', HS.out, ((((((Off.refl _ _).setCell (.inl (by simp)) _).setCell (.inl (by simp)) _).setCell (.inl (by simp)) _).setCell (.inl (by simp)) _).setCell (.inl (by simp)) _).setCell (.inl (by simp)) _, _, HH.out.make a' x _ a1 hlt' HX.out.1 HX.out.2⟩
theorem heap_serves (h : Nat) : Serves (heapStore h) where
  off := by
    rintro w w' S U σ k ⟨p, u, m, cs, us, rfl, hh, hk⟩ ho hd
    exact ⟨p, u, m, cs, us, rfl, hh.off ho hd, hk⟩
  old := by
    rintro w S σ k ⟨p, u, m, cs, us, rfl, hh, hk⟩ b hb
    simp only [List.mem_cons, List.not_mem_nil, or_false] at hb
    rcases hb with rfl | rfl | rfl
    · exact hh.top.lt
    · exact hh.pages.lt
    · exact hh.used.lt
  less := by
    rintro w S σ k k' ⟨p, u, m, cs, us, rfl, hh, hk⟩ hl
    exact ⟨p, u, m, cs, us, rfl, hh, Nat.le_trans hl hk⟩
  load := by
    refine ⟨98, .pointer (some ⟨h, 0, none⟩), fun W => rfl, fun W => rfl, fun args W => Try.call98 args W, ?_⟩
    rintro w S σ k no x ⟨p, u, m, cs, us, rfl, hh, hk⟩ hx
    exact heap_load hh no x hx
  drop := by
    refine ⟨97, .pointer (some ⟨h, 0, none⟩), fun W => rfl, fun W => rfl, fun args W => Try.call97 args W, ?_⟩
    rintro w S σ k no ⟨p, u, m, cs, us, rfl, hh, hk⟩ hx
    refine (heap_drop hh no hx).mono ?_
    rintro e w' ⟨rfl, ho, us', hh'⟩
    exact ⟨rfl, _, ⟨p, u, m, cs, us', rfl, hh', Nat.le_trans hk (freeN_drop σ no)⟩, ho, Fresh.refl _ _⟩
  make := by
    refine ⟨99, .pointer (some ⟨h, 0, none⟩), fun W => rfl, fun W => rfl, fun args W => Try.call99 args W, ?_⟩
    rintro w S σ k x ⟨p, u, m, cs, us, rfl, hh, hk⟩ hf hk1 hk3 hb
    have hf1 : 1 ≤ k := by rcases hf with hf | hf; exact hf.elim; exact hf
    refine (heap_make hh (by omega) x hk1 hk3).mono ?_
    rintro e w' ⟨n, rfl, n1, n2, n3, ho, m', cs', us', hh'⟩
    have := freeN_upd σ n x n1 n2 n3
    exact .inl ⟨n, rfl, n1, n2, n3, _, ⟨p, u, m', cs', us', rfl, hh', by omega⟩, ho, Fresh.refl _ _⟩
/-- A new heap. -/
def NewHp (w : World) (e : Ending) (w' : World) : Prop := ∃ (h : Nat) (S : List Nat), e = .returned (.pointer (some ⟨h, 0, none⟩)) ∧ (heapStore h).At w' S (fun _ => none) 511 ∧ Below w.heap.size w w' ∧ ∀ b ∈ S, w.heap.size ≤ b
theorem pages_made : ∃ cs : Array Value, cs.size = 2048 ∧ (∀ n, n < 512 → cs[n * 4]? = some (.int .i64 0) ∧ cs[n * 4 + 1]? = some (.int .i64 0) ∧ cs[n * 4 + 2]? = some (.int .i64 0) ∧ cs[n * 4 + 3]? = some (.string ⟨#[]⟩)) ∧
    ∀ W : World, (Instr.makeSlice 76 (.int .i64 512) (.int .i64 512)).run Try.prog W = .ok (.slice (some ⟨W.heap.size, 0, none⟩) 512 512) (W.alloc (.cells cs 113)) := by
  have hinfo : (Try.prog.info? 113).map (fun i => (i.zero, i.size, i.bytes)) = some (some (.agg #[.int .i64 0, .int .i64 0, .int .i64 0, .string ByteArray.empty]), 4, 40) := by kernel_rfl
  obtain ⟨i, hi, hz, hs, hb⟩ := info_parts hinfo
  refine ⟨madeCells #[.int .i64 0, .int .i64 0, .int .i64 0, .string ⟨#[]⟩] 2048, size_madeCells _ _, fun n hn => ?_, fun W => ?_⟩
  · have e0 : n * 4 < 2048 := by omega
    have e1 : n * 4 + 1 < 2048 := by omega
    have e2 : n * 4 + 2 < 2048 := by omega
    have e3 : n * 4 + 3 < 2048 := by omega
    have m0 : n * 4 % 4 = 0 := by omega
    have m1 : (n * 4 + 1) % 4 = 1 := by omega
    have m2 : (n * 4 + 2) % 4 = 2 := by omega
    have m3 : (n * 4 + 3) % 4 = 3 := by omega
    simp [madeCells, e0, e1, e2, e3, m0, m1, m2, m3]
  · have hr := run_make (P := Try.prog) W 76 113 i _ Try.underlying76 hi hz .i64 .i64 512 512 (by omega) (Int.le_refl _) (by rw [hb]; omega) (by omega)
    rw [hs] at hr
    exact hr
theorem truths_made : ∃ us : Array Value, us.size = 512 ∧ (∀ n, n < 512 → us[n]? = some (.bool false)) ∧
    ∀ W : World, (Instr.makeSlice 79 (.int .i64 512) (.int .i64 512)).run Try.prog W = .ok (.slice (some ⟨W.heap.size, 0, none⟩) 512 512) (W.alloc (.cells us 4)) := by
  refine ⟨madeCells #[.bool false] 512, size_madeCells _ _, fun n hn => by simp [madeCells, hn, Nat.mod_one], fun W => ?_⟩
  exact run_make_row' (P := Try.prog) 79 4 (.bool false) 1 Try.underlying79 (by kernel_rfl) rfl .i64 .i64 512 (by omega) (by omega) W
theorem freeN_none : freeN (fun _ => none) = 511 := by decide
theorem newheap_at {w W : World} {h p u : Nat} {cs us : Array Value} (h1 : cs.size = 2048) (h2 : ∀ n, n < 512 → cs[n * 4]? = some (.int .i64 0) ∧ cs[n * 4 + 1]? = some (.int .i64 0) ∧ cs[n * 4 + 2]? = some (.int .i64 0) ∧ cs[n * 4 + 3]? = some (.string ⟨#[]⟩)) (h3 : us.size = 512) (h4 : ∀ n, n < 512 → us[n]? = some (.bool false))
    (b1 : Bk W h 81 #[.slice (some ⟨p, 0, none⟩) 512 512, .slice (some ⟨u, 0, none⟩) 512 512, .bool false, .int .i64 512, .int .i64 0, .bool false]) (b2 : Bk W p 113 cs) (b3 : Bk W u 4 us) (hb : Below w.heap.size w W) (hh : w.heap.size ≤ h) (hp : w.heap.size ≤ p) (hu : w.heap.size ≤ u) :
    NewHp w (.returned (.pointer (some ⟨h, 0, none⟩))) W := by
  refine ⟨h, [h, p, u], rfl, ⟨p, u, 0, cs, us, rfl, ⟨b1, b2, b3, h1, h3, fun n hn => ?_, fun n hn => h4 n hn, fun n x hx => by cases hx⟩, Nat.le_of_eq freeN_none.symm⟩, hb, fun b hbb => ?_⟩
  · obtain ⟨c0, c1, c2, c3⟩ := h2 n hn
    exact ⟨0, 0, 0, _, c0, c1, c2, c3, fun x hx => by cases hx⟩
  · simp only [List.mem_cons, List.not_mem_nil, or_false] at hbb
    rcases hbb with rfl | rfl | rfl
    · exact hh
    · exact hp
    · exact hu
set_option maxHeartbeats 8000000 in
theorem newheap_any (w : World) : Calls Try.prog 22 #[.int .i64 512, .bool false] w (NewHp w) := by
  obtain ⟨cs, h1, h2, h3⟩ := pages_made
  obtain ⟨us, h4, h5, h6⟩ := truths_made
  have H1 := Lib.hid h1
  have H2 := Lib.hid h2
  have H4 := Lib.hid h4
  have H5 := Lib.hid h5
  clear h1 h2 h4 h5
  go_enter Try.func22, Try.ntmps22
  go_wp2_with fail
  go_region
  · go_wp2_with fail
    go_ret
    refine newheap_at (h := w.heap.size + 1 + 1) (p := w.heap.size) (u := w.heap.size + 1) H1.out H2.out H4.out H5.out ?_ (((Bk.new w _ _).alloc _).alloc _).drew ?_ ((((Below.refl _ w).alloc (Nat.le_refl _) _).alloc (by simp) _).alloc (by simp; omega) _).drew (by omega) (by omega) (by omega)
    · have h := Bk.new ((w.alloc (.cells cs 113)).alloc (.cells us 4)) 81 #[.slice (some ⟨w.heap.size, 0, none⟩) 512 512, .slice (some ⟨w.heap.size + 1, 0, none⟩) 512 512, .bool false, .int .i64 512, .int .i64 0, .bool false]
      exact (by simpa using h : Bk _ _ _ _).drew
    · have h := (Bk.new (w.alloc (.cells cs 113)) 4 us).alloc (.cells #[.slice (some ⟨w.heap.size, 0, none⟩) 512 512, .slice (some ⟨w.heap.size + 1, 0, none⟩) 512 512, .bool false, .int .i64 512, .int .i64 0, .bool false] 81)
      exact (by simpa using h : Bk _ _ _ _).drew
  · go_wp2_with fail
    go_ret
    refine newheap_at (h := w.heap.size + 1 + 1) (p := w.heap.size + 1) (u := w.heap.size) H1.out H2.out H4.out H5.out ?_ ?_ (((Bk.new w _ _).alloc _).alloc _).drew ((((Below.refl _ w).alloc (Nat.le_refl _) _).alloc (by simp) _).alloc (by simp; omega) _).drew (by omega) (by omega) (by omega)
    · have h := Bk.new ((w.alloc (.cells us 4)).alloc (.cells cs 113)) 81 #[.slice (some ⟨w.heap.size + 1, 0, none⟩) 512 512, .slice (some ⟨w.heap.size, 0, none⟩) 512 512, .bool false, .int .i64 512, .int .i64 0, .bool false]
      exact (by simpa using h : Bk _ _ _ _).drew
    · have h := (Bk.new (w.alloc (.cells us 4)) 113 cs).alloc (.cells #[.slice (some ⟨w.heap.size + 1, 0, none⟩) 512 512, .slice (some ⟨w.heap.size, 0, none⟩) 512 512, .bool false, .int .i64 512, .int .i64 0, .bool false] 81)
      exact (by simpa using h : Bk _ _ _ _).drew
end Go.Proofs.Ytllafbcnikoohaa
/- A tree in pages, plain: how many pages; how many are free. -/
namespace Go.Proofs.Ytllafbcnikoohaa
open Go.RowKit
set_option linter.unusedVariables false
set_option linter.unusedSimpArgs false
namespace Tr
theorem sum_flat {α : Type} (f : α → List Nat) : ∀ l : List α, (l.flatMap f).length = (l.map fun x => (f x).length).sum
  | [] => rfl
  | x :: l => by simp [sum_flat f l]
theorem flat_pages (ks : List Kd) : ((ks.flatMap (·.L)).flatMap (·.pages)).length = (ks.map fun k => (k.L.flatMap (·.pages)).length).sum := by
  induction ks with
  | nil => rfl
  | cons k ks ih => simp only [List.flatMap_cons, List.flatMap_append, List.length_append, List.map_cons, List.sum_cons, ih]
theorem kids_count : ∀ ks : List Kd, (∀ k ∈ ks, k.P.length + 1 ≤ 2 * k.L.length + (k.L.flatMap (·.pages)).length) → (ks.flatMap (·.P)).length + ks.length ≤ 2 * (ks.flatMap (·.L)).length + ((ks.flatMap (·.L)).flatMap (·.pages)).length
  | [], _ => Nat.le_refl _
  | k :: ks, h => by
    have h1 := h k (by simp)
    have h2 := kids_count ks fun x hx => h x (by simp [hx])
    simp only [List.flatMap_cons, List.flatMap_append, List.length_append, List.length_cons] at h2 ⊢
    omega
theorem Stored.count {σ : Book} : ∀ {d no : Nat} {P : List Nat} {L : List En}, Stored σ d no P L → P.length + 1 ≤ 2 * L.length + (L.flatMap (·.pages)).length
  | 0, no, P, L, h => by
    obtain ⟨cs, P', rfl, g1, g2, g3, ⟨-, rfl, -, -⟩, g5, g6, g7⟩ := h
    have : 0 < L.length := List.length_pos_iff.2 g6
    simp only [List.length_cons]
    omega
  | d + 1, no, P, L, h => by
    obtain ⟨cs, P', rfl, g1, g2, g3, ⟨ks, hcs, rfl, rfl, -, -, hks⟩, g5, g6, g7⟩ := h
    have h2 := g7 rfl
    rw [hcs, List.length_map] at h2
    have h3 := kids_count ks fun k hk => Stored.count (d := d) (hks k hk).2
    simp only [List.length_cons]
    omega
theorem pages_le (L : List En) (h : ∀ e ∈ L, e.pages.length ≤ 1) : (L.flatMap (·.pages)).length ≤ L.length := by
  induction L with
  | nil => exact Nat.le_refl _
  | cons e L ih =>
    have h1 := h e (by simp)
    have h2 := ih fun x hx => h x (by simp [hx])
    simp only [List.flatMap_cons, List.length_append, List.length_cons]
    omega
theorem Root.count {σ : Book} {root : Nat} {P : List Nat} {L : List En} (h : Root σ root P L) (hp : ∀ e ∈ L, e.pages.length ≤ 1) : P.length ≤ 3 * L.length := by
  rcases h with ⟨-, rfl, rfl⟩ | ⟨d, h⟩
  · exact Nat.le_refl _
  · have h1 := h.count
    have h2 := pages_le L hp
    omega
theorem putE_len (key : ByteArray) (e : En) (L : List En) : (putE key e L).length ≤ L.length + 1 := by
  unfold putE
  have := spotE_le L key
  simp only [List.length_append, List.length_take, List.length_drop, List.length_cons, List.length_nil]
  split <;> omega
theorem putE_mem (key : ByteArray) (e : En) (L : List En) : ∀ x ∈ putE key e L, x = e ∨ x ∈ L := by
  intro x hx
  unfold putE at hx
  rcases List.mem_append.1 hx with hx | hx
  · exact .inr (List.mem_of_mem_take hx)
  · rcases List.mem_append.1 hx with hx | hx
    · exact .inl (by simpa using hx)
    · exact .inr (List.mem_of_mem_drop hx)
end Tr
theorem filter_one : ∀ (m : List Nat) (n : Nat), m.Nodup → m.length ≤ (m.filter fun i => i != n).length + 1
  | [], _, _ => Nat.zero_le _
  | a :: t, n, h => by
    have h2 := List.nodup_cons.1 h
    by_cases e : a = n
    · subst e
      have : t.filter (fun i => i != a) = t := List.filter_eq_self.2 fun i hi => by
        have : i ≠ a := fun e => h2.1 (e ▸ hi)
        simpa using this
      simp [this]
    · have := filter_one t n h2.2
      have he : (a != n) = true := by simpa using e
      simp [List.filter_cons, he]
      omega
theorem filter_len : ∀ (P : List Nat) (l : List Nat), l.Nodup → l.length ≤ (l.filter fun i => !P.contains i).length + P.length
  | [], l, _ => by
    have : (l.filter fun i => !([] : List Nat).contains i) = l := List.filter_eq_self.2 (by simp)
    rw [this]
    exact Nat.le_refl _
  | n :: P, l, h => by
    have h1 := filter_len P l h
    have h2 := filter_one (l.filter fun i => !P.contains i) n (List.Pairwise.filter _ h)
    have e : (l.filter fun i => !P.contains i).filter (fun i => i != n) = l.filter fun i => !(n :: P).contains i := by
      rw [List.filter_filter]
      refine List.filter_congr fun i _ => ?_
      simp only [List.contains_cons, Bool.not_or, bne]
    rw [e] at h2
    simp only [List.length_cons]
    omega
/-- Pages that are not among the used ones are free. -/
theorem freeN_ge {σ : Book} {P : List Nat} (h : ∀ n, σ n ≠ none → n ∈ P) : 511 ≤ freeN σ + P.length := by
  have h1 := filter_len (0 :: P) (List.range 512) List.nodup_range
  rw [List.length_range] at h1
  have h2 : ((List.range 512).filter fun i => !(0 :: P).contains i).length ≤ freeN σ := by
    unfold freeN
    refine List.Sublist.length_le ?_
    have e : (List.range 512).filter (fun i => !(0 :: P).contains i) = ((List.range 512).filter (fun i => i != 0 && (σ i).isNone)).filter (fun i => !(0 :: P).contains i) := by
      rw [List.filter_filter]
      refine List.filter_congr fun i _ => ?_
      cases hc : (0 :: P).contains i with
      | true => rfl
      | false =>
        simp only [List.contains_cons, Bool.or_eq_false_iff] at hc
        have h0 : (i != 0) = true := by simp only [bne, hc.1]; rfl
        have hn : σ i = none := by
          cases hs : σ i with
          | none => rfl
          | some x =>
            have hm := h i (by rw [hs]; simp)
            have := List.contains_iff_mem.2 hm
            rw [hc.2] at this
            cases this
        simp [h0, hn]
    rw [e]
    exact List.filter_sublist
  simp only [List.length_cons] at h1
  omega
end Go.Proofs.Ytllafbcnikoohaa
/- A place in a tree, plain: the way to an entry; the next one, the one ahead; where a key stands. -/
namespace Go.Proofs.Ytllafbcnikoohaa
open Go.RowKit
set_option linter.unusedVariables false
set_option linter.unusedSimpArgs false
/-- A level on the way. -/
structure Lv where
  leaf : Bool
  cells : List Ce
  idx : Nat
namespace Tr
/-- A leaf's page. -/
structure LfOk (σ : Book) (no : Nat) (L : List En) : Prop where
  page : σ no = some ⟨1, Nd.str true (L.map (·.cell))⟩
  right : Nd.right true (L.map (·.cell)) = true
  sum : Nd.sum true (L.map (·.cell)) ≤ 488
  some : L ≠ []
  rise : Rising L
/-- A branch's page. -/
structure BrOk (σ : Book) (d no : Nat) (ks : List Kd) : Prop where
  page : σ no = some ⟨2, Nd.str false (ks.map Kd.cell)⟩
  right : Nd.right false (ks.map Kd.cell) = true
  sum : Nd.sum false (ks.map Kd.cell) ≤ 488
  two : 2 ≤ ks.length
  sep : Sep (ks.map Kd.rg)
  kids : ∀ k ∈ ks, Stored σ d k.no k.P k.L
theorem Stored.lf {σ : Book} {no : Nat} {P : List Nat} {L : List En} (h : Stored σ 0 no P L) : LfOk σ no L := by
  obtain ⟨cs, P', rfl, g1, g2, g3, hp, g5, g6, g7⟩ := h
  have hr := hp.right.1
  obtain ⟨rfl, h2, h3, h4⟩ := hp
  exact ⟨g3, hr, g5, g6, h3⟩
theorem Stored.br {σ : Book} {d no : Nat} {P : List Nat} {L : List En} (h : Stored σ (d + 1) no P L) : ∃ ks, BrOk σ d no ks ∧ L = ks.flatMap (·.L) := by
  obtain ⟨cs, P', rfl, g1, g2, g3, hp, g5, g6, g7⟩ := h
  have hr := hp.right.1
  obtain ⟨ks, rfl, h2, h3, h4, h5, h6⟩ := hp
  exact ⟨ks, ⟨g3, hr, g5, by have := g7 rfl; rwa [List.length_map] at this, h5, fun k hk => (h6 k hk).2⟩, h3⟩
theorem Stored.some {σ : Book} {d no : Nat} {P : List Nat} {L : List En} (h : Stored σ d no P L) : L ≠ [] := by
  obtain ⟨cs, P', rfl, g1, g2, g3, hp, g5, g6, g7⟩ := h
  exact g6
/-- The way to the entry i. -/
def On (σ : Book) : Nat → Nat → List En → Nat → List Lv → Prop
  | 0, no, L, i, way => LfOk σ no L ∧ i < L.length ∧ way = [⟨true, L.map (·.cell), i⟩]
  | d + 1, no, L, i, way => ∃ (ks : List Kd) (j i' : Nat) (rest : List Lv) (k : Kd), BrOk σ d no ks ∧ L = ks.flatMap (·.L) ∧ ks[j]? = Option.some k ∧ On σ d k.no k.L i' rest ∧ i = ((ks.take j).flatMap (·.L)).length + i' ∧ way = ⟨false, ks.map Kd.cell, j⟩ :: rest
/-- Entries of a kid, among all. -/
theorem flat_split {ks : List Kd} {j : Nat} {k : Kd} (h : ks[j]? = Option.some k) : ks.flatMap (·.L) = (ks.take j).flatMap (·.L) ++ (k.L ++ (ks.drop (j + 1)).flatMap (·.L)) := by
  obtain ⟨hj, rfl⟩ := List.getElem?_eq_some_iff.1 h
  have e : ks = ks.take j ++ (ks[j] :: ks.drop (j + 1)) := by rw [← List.drop_eq_getElem_cons hj, List.take_append_drop]
  conv => lhs; rw [e]
  rw [flatMap_app, List.flatMap_cons]
theorem flat_take {ks : List Kd} {j : Nat} {k : Kd} (h : ks[j]? = Option.some k) : (ks.take (j + 1)).flatMap (·.L) = (ks.take j).flatMap (·.L) ++ k.L := by
  obtain ⟨hj, rfl⟩ := List.getElem?_eq_some_iff.1 h
  exact take_flat (·.L) ks j hj
theorem On.lt {σ : Book} : ∀ {d no : Nat} {L : List En} {i : Nat} {way : List Lv}, On σ d no L i way → i < L.length
  | 0, no, L, i, way, h => h.2.1
  | d + 1, no, L, i, way, h => by
    obtain ⟨ks, j, i', rest, k, h1, rfl, h3, h4, rfl, rfl⟩ := h
    have := On.lt h4
    rw [flat_split h3]
    simp only [List.length_append]
    omega
theorem On.len {σ : Book} : ∀ {d no : Nat} {L : List En} {i : Nat} {way : List Lv}, On σ d no L i way → way.length = d + 1
  | 0, no, L, i, way, h => by rw [h.2.2]; rfl
  | d + 1, no, L, i, way, h => by
    obtain ⟨ks, j, i', rest, k, h1, rfl, h3, h4, rfl, rfl⟩ := h
    rw [List.length_cons, On.len h4]
/-- The level that is last tells the entry. -/
theorem On.last {σ : Book} : ∀ {d no : Nat} {L : List En} {i : Nat} {way : List Lv}, On σ d no L i way → ∃ pre cs a, way = pre ++ [⟨true, cs, a⟩] ∧ cs[a]? = (L[i]?).map (·.cell)
  | 0, no, L, i, way, h => ⟨[], _, i, h.2.2, by rw [List.getElem?_map]⟩
  | d + 1, no, L, i, way, h => by
    obtain ⟨ks, j, i', rest, k, h1, rfl, h3, h4, rfl, rfl⟩ := h
    obtain ⟨pre, cs, a, rfl, hc⟩ := On.last h4
    refine ⟨_ :: pre, cs, a, rfl, ?_⟩
    rw [hc, flat_split h3, List.getElem?_append_right (Nat.le_add_right _ _), Nat.add_sub_cancel_left, List.getElem?_append_left (On.lt h4)]
theorem On.idx {σ : Book} : ∀ {d no : Nat} {L : List En} {i : Nat} {way : List Lv}, On σ d no L i way → ∀ x ∈ way, x.idx < x.cells.length
  | 0, no, L, i, way, h, x, hx => by
    rw [h.2.2, List.mem_singleton] at hx
    subst hx
    rw [List.length_map]
    exact h.2.1
  | d + 1, no, L, i, way, h, x, hx => by
    obtain ⟨ks, j, i', rest, k, h1, rfl, h3, h4, rfl, rfl⟩ := h
    rcases List.mem_cons.1 hx with rfl | hx
    · rw [List.length_map]
      exact (List.getElem?_eq_some_iff.1 h3).1
    · exact On.idx h4 x hx
/-- All levels at their ends: the last entry. -/
theorem On.at_end {σ : Book} : ∀ {d no : Nat} {L : List En} {i : Nat} {way : List Lv}, On σ d no L i way → (∀ x ∈ way, x.cells.length ≤ x.idx + 1) → i + 1 = L.length
  | 0, no, L, i, way, h, ha => by
    have := ha ⟨true, L.map (·.cell), i⟩ (by rw [h.2.2]; simp)
    simp only [List.length_map] at this
    have := h.2.1
    omega
  | d + 1, no, L, i, way, h, ha => by
    obtain ⟨ks, j, i', rest, k, h1, rfl, h3, h4, rfl, rfl⟩ := h
    have e := On.at_end h4 fun x hx => ha x (by simp [hx])
    have hj := ha _ (List.mem_cons_self)
    simp only [List.length_map] at hj
    rw [flat_split h3, List.drop_of_length_le hj]
    simp
    omega
theorem On.at_start {σ : Book} : ∀ {d no : Nat} {L : List En} {i : Nat} {way : List Lv}, On σ d no L i way → (∀ x ∈ way, x.idx = 0) → i = 0
  | 0, no, L, i, way, h, ha => ha ⟨true, L.map (·.cell), i⟩ (by rw [h.2.2]; simp)
  | d + 1, no, L, i, way, h, ha => by
    obtain ⟨ks, j, i', rest, k, h1, rfl, h3, h4, rfl, rfl⟩ := h
    have e := On.at_start h4 fun x hx => ha x (by simp [hx])
    have hj : j = 0 := ha ⟨false, _, j⟩ List.mem_cons_self
    subst hj e
    rfl
/-- A level that can go forth, all below it at their ends. -/
theorem On.forth {σ : Book} : ∀ {d no : Nat} {L : List En} {i : Nat} (pre : List Lv) {x : Lv} {post : List Lv}, On σ d no L i (pre ++ x :: post) → (∀ y ∈ post, y.cells.length ≤ y.idx + 1) → x.idx + 1 < x.cells.length →
    (x.leaf = true ∧ On σ d no L (i + 1) (pre ++ [⟨true, x.cells, x.idx + 1⟩])) ∨
    (x.leaf = false ∧ ∃ (d' : Nat) (c : Ce) (L' : List En) (P' : List Nat), x.cells[x.idx + 1]? = Option.some c ∧ Stored σ d' c.child P' L' ∧ d' + pre.length + 1 = d ∧ ∀ rest, On σ d' c.child L' 0 rest → On σ d no L (i + 1) (pre ++ ⟨false, x.cells, x.idx + 1⟩ :: rest))
  | 0, no, L, i, pre, x, post, h, ha, hx => by
    have h3 := h.2.2
    cases pre with
    | nil =>
      injection h3 with e1 e2
      subst e1
      simp only [List.length_map] at hx
      exact .inl ⟨rfl, h.1, hx, rfl⟩
    | cons y pre => simp at h3
  | d + 1, no, L, i, pre, x, post, h, ha, hx => by
    obtain ⟨ks, j, i', rest, k, h1, rfl, h3, h4, rfl, h5⟩ := h
    cases pre with
    | nil =>
      injection h5 with e1 e2
      subst e1 e2
      simp only [List.length_map] at hx
      have e := On.at_end h4 ha
      obtain ⟨k2, hk2⟩ : ∃ k2, ks[j + 1]? = Option.some k2 := ⟨_, List.getElem?_eq_getElem hx⟩
      refine .inr ⟨rfl, d, k2.cell, k2.L, k2.P, by rw [List.getElem?_map, hk2]; rfl, h1.kids k2 (List.mem_of_getElem? hk2), by simp, fun rest hr => ⟨ks, j + 1, 0, rest, k2, h1, rfl, hk2, hr, ?_, rfl⟩⟩
      rw [flat_take h3, List.length_append]
      omega
    | cons y pre =>
      injection h5 with e1 e2
      subst e1 e2
      rcases On.forth pre h4 ha hx with ⟨g1, g2⟩ | ⟨g1, d', c, L', P', g2, g3, g4, g5⟩
      · exact .inl ⟨g1, ks, j, i' + 1, _, k, h1, rfl, h3, g2, by omega, rfl⟩
      · exact .inr ⟨g1, d', c, L', P', g2, g3, by rw [List.length_cons]; omega, fun rest hr => ⟨ks, j, i' + 1, _, k, h1, rfl, h3, g5 rest hr, by omega, rfl⟩⟩
/-- A level that can go back, all below it at their beginnings. -/
theorem On.back {σ : Book} : ∀ {d no : Nat} {L : List En} {i : Nat} (pre : List Lv) {x : Lv} {post : List Lv}, On σ d no L i (pre ++ x :: post) → (∀ y ∈ post, y.idx = 0) → 1 ≤ x.idx → 1 ≤ i ∧ (
    (x.leaf = true ∧ On σ d no L (i - 1) (pre ++ [⟨true, x.cells, x.idx - 1⟩])) ∨
    (x.leaf = false ∧ ∃ (d' : Nat) (c : Ce) (L' : List En) (P' : List Nat), x.cells[x.idx - 1]? = Option.some c ∧ Stored σ d' c.child P' L' ∧ d' + pre.length + 1 = d ∧ ∀ rest i', i' + 1 = L'.length → On σ d' c.child L' i' rest → On σ d no L (i - 1) (pre ++ ⟨false, x.cells, x.idx - 1⟩ :: rest)))
  | 0, no, L, i, pre, x, post, h, ha, hx => by
    have h3 := h.2.2
    cases pre with
    | nil =>
      injection h3 with e1 e2
      subst e1
      have := h.2.1
      exact ⟨hx, .inl ⟨rfl, h.1, by omega, rfl⟩⟩
    | cons y pre => simp at h3
  | d + 1, no, L, i, pre, x, post, h, ha, hx => by
    obtain ⟨ks, j, i', rest, k, h1, rfl, h3, h4, rfl, h5⟩ := h
    cases pre with
    | nil =>
      injection h5 with e1 e2
      subst e1 e2
      simp only at hx
      have e := On.at_start h4 ha
      subst e
      have hj := (List.getElem?_eq_some_iff.1 h3).1
      obtain ⟨k2, hk2⟩ : ∃ k2, ks[j - 1]? = Option.some k2 := ⟨_, List.getElem?_eq_getElem (by omega)⟩
      have hst := h1.kids k2 (List.mem_of_getElem? hk2)
      have hp : 0 < k2.L.length := List.length_pos_iff.2 hst.some
      have ht := flat_take hk2
      rw [show j - 1 + 1 = j by omega] at ht
      have hl : ((ks.take j).flatMap (·.L)).length = ((ks.take (j - 1)).flatMap (·.L)).length + k2.L.length := by rw [ht, List.length_append]
      refine ⟨by omega, .inr ⟨rfl, d, k2.cell, k2.L, k2.P, by rw [List.getElem?_map, hk2]; rfl, hst, by simp, fun rest i' hi hr => ⟨ks, j - 1, i', rest, k2, h1, rfl, hk2, hr, by omega, rfl⟩⟩⟩
    | cons y pre =>
      injection h5 with e1 e2
      subst e1 e2
      obtain ⟨g0, g⟩ := On.back pre h4 ha hx
      refine ⟨by omega, ?_⟩
      rcases g with ⟨g1, g2⟩ | ⟨g1, d', c, L', P', g2, g3, g4, g5⟩
      · exact .inl ⟨g1, ks, j, i' - 1, _, k, h1, rfl, h3, g2, by omega, rfl⟩
      · exact .inr ⟨g1, d', c, L', P', g2, g3, by rw [List.length_cons]; omega, fun rest i2 hi hr => ⟨ks, j, i' - 1, _, k, h1, rfl, h3, g5 rest i2 hi hr, by omega, rfl⟩⟩
/-- A way down whose places are chosen. -/
def Dn (σ : Book) (ch : List Ce → Nat) (d no : Nat) (L : List En) (i : Nat) (way : List Lv) : Prop := On σ d no L i way ∧ ∀ x ∈ way, x.idx = ch x.cells
theorem dn_ex {σ : Book} {ch : List Ce → Nat} (hc : ∀ l, l ≠ [] → ch l < l.length) : ∀ {d no : Nat} {P : List Nat} {L : List En}, Stored σ d no P L → ∃ i way, Dn σ ch d no L i way
  | 0, no, P, L, h => by
    have hl := h.lf
    have := hc (L.map (·.cell)) (by simpa using hl.some)
    rw [List.length_map] at this
    exact ⟨ch (L.map (·.cell)), _, ⟨hl, this, rfl⟩, fun x hx => by rw [List.mem_singleton] at hx; subst hx; rfl⟩
  | d + 1, no, P, L, h => by
    obtain ⟨ks, hb, rfl⟩ := h.br
    have h2 := hb.two
    have := hc (ks.map Kd.cell) (by intro e; rw [List.map_eq_nil_iff] at e; subst e; simp at h2)
    rw [List.length_map] at this
    obtain ⟨k, hk⟩ : ∃ k, ks[ch (ks.map Kd.cell)]? = Option.some k := ⟨_, List.getElem?_eq_getElem this⟩
    obtain ⟨i, way, h3, h4⟩ := dn_ex hc (hb.kids k (List.mem_of_getElem? hk))
    refine ⟨_, _, ⟨ks, _, i, way, k, hb, rfl, hk, h3, rfl, rfl⟩, fun x hx => ?_⟩
    rcases List.mem_cons.1 hx with rfl | hx
    · rfl
    · exact h4 x hx
theorem dn_head {σ : Book} {d no : Nat} {L : List En} {i : Nat} {way : List Lv} (h : Dn σ (fun _ => 0) d no L i way) : i = 0 := h.1.at_start h.2
theorem dn_tail {σ : Book} {d no : Nat} {L : List En} {i : Nat} {way : List Lv} (h : Dn σ (fun l => l.length - 1) d no L i way) : i + 1 = L.length := h.1.at_end fun x hx => by
  have := h.2 x hx
  simp only at this
  omega
/-- The greatest place whose key isn't greater; else the first. -/
def seekDown (l : List Ce) (key : ByteArray) : Nat → Nat
  | 0 => 0
  | n + 1 => if Nd.lt key (l.getD (n + 1) Ce.zero).key = true then seekDown l key n else n + 1
def seekAt (key : ByteArray) (l : List Ce) : Nat := seekDown l key (l.length - 1)
theorem seekDown_le (l : List Ce) (key : ByteArray) : ∀ n, seekDown l key n ≤ n
  | 0 => Nat.le_refl _
  | n + 1 => by
    have := seekDown_le l key n
    simp only [seekDown]
    split <;> omega
theorem seekAt_lt (key : ByteArray) (l : List Ce) (h : l ≠ []) : seekAt key l < l.length := by
  have := seekDown_le l key (l.length - 1)
  have := List.length_pos_iff.2 h
  unfold seekAt
  omega
theorem seekDown_above (l : List Ce) (key : ByteArray) : ∀ n m, seekDown l key n < m → m ≤ n → Nd.lt key (l.getD m Ce.zero).key = true
  | 0, m, h1, h2 => by simp only [seekDown] at h1; omega
  | n + 1, m, h1, h2 => by
    simp only [seekDown] at h1
    split at h1
    · next h =>
      by_cases e : m = n + 1
      · subst e; exact h
      · exact seekDown_above l key n m h1 (by omega)
    · omega
theorem seekDown_here (l : List Ce) (key : ByteArray) : ∀ n, 1 ≤ seekDown l key n → Nd.lt key (l.getD (seekDown l key n) Ce.zero).key = false
  | 0, h => by simp [seekDown] at h
  | n + 1, h => by
    simp only [seekDown] at h ⊢
    split
    · next h1 =>
      rw [if_pos h1] at h
      exact seekDown_here l key n h
    · next h1 => simpa using h1
/-- Where a search stops: what is ahead is less, what is behind is greater. -/
def Near (key : ByteArray) (L : List En) (i : Nat) : Prop := (∀ j e, j < i → L[j]? = Option.some e → Nd.lt e.cell.key key = true) ∧ ∀ j e, i < j → L[j]? = Option.some e → Nd.lt key e.cell.key = true
theorem sep_kid {ks : List Kd} (hs : Sep (ks.map Kd.rg)) {j : Nat} {k : Kd} (hk : ks[j]? = Option.some k) : (∀ e ∈ (ks.take j).flatMap (·.L), Nd.lt e.cell.key k.key = true) ∧ ∀ e ∈ k.L, Nd.lt e.cell.key k.key = false := by
  obtain ⟨hj, rfl⟩ := List.getElem?_eq_some_iff.1 hk
  refine ⟨fun e he => ?_, fun e he => hs.2 ks[j].rg (List.mem_map.2 ⟨_, List.getElem_mem hj, rfl⟩) e he⟩
  obtain ⟨x, hx, he⟩ := List.mem_flatMap.1 he
  obtain ⟨m, hm, rfl⟩ := List.mem_iff_getElem.1 hx
  rw [List.length_take] at hm
  rw [List.getElem_take] at he
  have h1 := List.pairwise_iff_getElem.1 hs.1 m j (by rw [List.length_map]; omega) (by rw [List.length_map]; exact hj) (by omega)
  rw [List.getElem_map, List.getElem_map] at h1
  exact h1 e he
theorem dn_seek {σ : Book} {key : ByteArray} : ∀ {d no : Nat} {L : List En} {i : Nat} {way : List Lv}, Dn σ (seekAt key) d no L i way → Near key L i
  | 0, no, L, i, way, ⟨h, hc⟩ => by
    obtain ⟨hl, hi, rfl⟩ := h
    have e : i = seekAt key (L.map (·.cell)) := hc ⟨true, L.map (·.cell), i⟩ (by simp)
    have hr := List.pairwise_iff_getElem.1 hl.rise
    have hg : ∀ (m : Nat) (hm : m < L.length), ((L.map (·.cell)).getD m Ce.zero) = L[m].cell := fun m hm => by
      rw [List.getD_eq_getElem?_getD, List.getElem?_map, List.getElem?_eq_getElem hm]; rfl
    refine ⟨fun j e1 hj he => ?_, fun j e1 hj he => ?_⟩
    · obtain ⟨hj2, rfl⟩ := List.getElem?_eq_some_iff.1 he
      have h1 := seekDown_here (L.map (·.cell)) key (L.length - 1) (by unfold seekAt at e; rw [List.length_map] at e; omega)
      unfold seekAt at e
      rw [List.length_map] at e
      rw [← e, hg i hi] at h1
      exact lt_le (hr j i hj2 hi hj) h1
    · obtain ⟨hj2, rfl⟩ := List.getElem?_eq_some_iff.1 he
      unfold seekAt at e
      rw [List.length_map] at e
      have h1 := seekDown_above (L.map (·.cell)) key (L.length - 1) j (by omega) (by omega)
      rwa [hg j hj2] at h1
  | d + 1, no, L, i, way, ⟨h, hc⟩ => by
    obtain ⟨ks, j, i', rest, k, hb, rfl, hk, h4, rfl, rfl⟩ := h
    obtain ⟨n1, n2⟩ := dn_seek (key := key) ⟨h4, fun x hx => hc x (by simp [hx])⟩
    have e : j = seekAt key (ks.map Kd.cell) := hc _ List.mem_cons_self
    have hj := (List.getElem?_eq_some_iff.1 hk).1
    have hg : ∀ (m : Nat) (k' : Kd), ks[m]? = Option.some k' → ((ks.map Kd.cell).getD m Ce.zero).key = k'.key := fun m k' hm => by
      rw [List.getD_eq_getElem?_getD, List.getElem?_map, hm]; rfl
    unfold seekAt at e
    rw [List.length_map] at e
    have hi := On.lt h4
    obtain ⟨s1, s2⟩ := sep_kid hb.sep hk
    refine ⟨fun m e1 hm he => ?_, fun m e1 hm he => ?_⟩
    · rw [flat_split hk] at he
      by_cases hm2 : m < ((ks.take j).flatMap (·.L)).length
      · rw [List.getElem?_append_left hm2] at he
        have h1 := s1 e1 (List.mem_of_getElem? he)
        by_cases hj0 : j = 0
        · subst hj0; simp at hm2
        · have h2 := seekDown_here (ks.map Kd.cell) key (ks.length - 1) (by omega)
          rw [← e, hg j k hk] at h2
          exact lt_le h1 h2
      · rw [List.getElem?_append_right (by omega), List.getElem?_append_left (by omega)] at he
        exact n1 _ e1 (by omega) he
    · rw [flat_split hk] at he
      rw [List.getElem?_append_right (by omega)] at he
      by_cases hm2 : m - ((ks.take j).flatMap (·.L)).length < k.L.length
      · rw [List.getElem?_append_left hm2] at he
        exact n2 _ e1 (by omega) he
      · rw [List.getElem?_append_right (by omega)] at he
        obtain ⟨x, hx, hxe⟩ := List.mem_flatMap.1 (List.mem_of_getElem? he)
        obtain ⟨q, hq, rfl⟩ := List.mem_iff_getElem.1 hx
        rw [List.length_drop] at hq
        rw [List.getElem_drop] at hxe
        have hq2 : ks[j + 1 + q]? = Option.some ks[j + 1 + q] := List.getElem?_eq_getElem (by omega)
        have h3 := (sep_kid hb.sep hq2).2 e1 hxe
        have h4 := seekDown_above (ks.map Kd.cell) key (ks.length - 1) (j + 1 + q) (by omega) (by omega)
        rw [hg _ _ hq2] at h4
        exact lt_le h4 h3
/-- Where a key stands, out of where the search stops. -/
theorem near_spot {key : ByteArray} {L : List En} {i : Nat} (h : Near key L i) (hi : i < L.length) : spotE L key = if Nd.lt L[i].cell.key key = true then i + 1 else i := by
  have hs : ∀ j, j ≤ L.length → (∀ m (hm : m < j), ∀ h : m < L.length, Nd.lt (L[m]'h).cell.key key = true) → (∀ h : j < L.length, Nd.lt L[j].cell.key key = false) → spotE L key = j := fun j hj h1 h2 => by
    refine Nd.spot_of _ key j (by rwa [List.length_map]) (fun m hm => ?_) (fun hm => ?_)
    · rw [List.getElem_map]; exact h1 m hm (by omega)
    · rw [List.length_map] at hm
      rw [List.getElem_map]
      exact h2 hm
  split
  · next hlt =>
    refine hs (i + 1) (by omega) (fun m hm hml => ?_) (fun hm => ?_)
    · by_cases e : m = i
      · subst e; exact hlt
      · exact h.1 m _ (by omega) (List.getElem?_eq_getElem hml)
    · exact Nd.lt_asymm (h.2 (i + 1) _ (by omega) (List.getElem?_eq_getElem hm))
  · next hlt =>
    refine hs i (by omega) (fun m hm hml => h.1 m _ hm (List.getElem?_eq_getElem hml)) (fun hm => by simpa using hlt)
end Tr
end Go.Proofs.Ytllafbcnikoohaa

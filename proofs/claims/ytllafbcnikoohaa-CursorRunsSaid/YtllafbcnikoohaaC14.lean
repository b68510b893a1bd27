/- Merged by program: CurA CurB CurC. -/
import Derived.Test.YtllafbcnikoohaaC13
import Derived.Test.YtllafbcnikoohaaC5
import Derived.Deep.RegionHeld3
/- A cursor in memory; New, load, off, head, tail, Seek's choice. -/
namespace Go.Proofs.Ytllafbcnikoohaa
open Go.RowKit
set_option maxRecDepth 100000
set_option linter.unusedVariables false
set_option linter.unusedSimpArgs false
/-- Levels as they lie. -/
def lvV (x : Lv × Rw) : List Value := [.bool x.1.leaf, .slice x.2.A x.2.n x.2.c, .int .i64 x.1.idx]
def flatL (ls : List (Lv × Rw)) : List Value := (ls.map lvV).flatten
theorem flatL_app (a b : List (Lv × Rw)) : flatL (a ++ b) = flatL a ++ flatL b := by simp [flatL]
theorem flatL_one (x : Lv × Rw) : flatL [x] = [.bool x.1.leaf, .slice x.2.A x.2.n x.2.c, .int .i64 x.1.idx] := by simp [flatL, lvV]
theorem flatL_cons (x : Lv × Rw) (l : List (Lv × Rw)) : flatL (x :: l) = lvV x ++ flatL l := by simp [flatL]
theorem flatL_len : ∀ l : List (Lv × Rw), (flatL l).length = l.length * 3
  | [] => rfl
  | x :: l => by rw [flatL_cons, List.length_append, flatL_len l, List.length_cons]; show 3 + _ = _; omega
theorem flatL_get : ∀ (l : List (Lv × Rw)) (i : Nat) (h : i < l.length) (j : Nat), j < 3 → (flatL l)[i * 3 + j]? = (lvV l[i])[j]?
  | x :: l, 0, h, j, hj => by
    rw [flatL_cons, Nat.zero_mul, Nat.zero_add, List.getElem?_append_left (by show j < 3; exact hj)]
    rfl
  | x :: l, i + 1, h, j, hj => by
    rw [flatL_cons, List.getElem?_append_right (by show 3 ≤ _; omega), show (i + 1) * 3 + j - (lvV x).length = i * 3 + j by show (i + 1) * 3 + j - 3 = _; omega]
    exact flatL_get l i (by simpa using h) j hj
theorem flatL_one' (x : Lv × Rw) : ∀ u ∈ lvV x, u.oneCell' = true := by simp [lvV, Value.oneCell']
theorem own_form {w : World} {B : Nat} {e : TypeId} {s n : Nat} {v : Value} {xs : List Value} (h : w.ownsRow B e s v n xs) : ∃ A c, v = .slice A n c ∧ (n ≠ 0 → ∃ g, A = some ⟨g, 0, none⟩) ∧ c ≤ maxLen := by
  rcases h.2 with ⟨rfl, rfl⟩ | ⟨g, cap, _, rfl, _, _, _, hc, _⟩
  · exact ⟨none, 0, rfl, fun h => absurd rfl h, Nat.zero_le _⟩
  · exact ⟨_, cap, rfl, fun _ => ⟨g, rfl⟩, hc⟩
/-- A cursor at block c: its own blocks U, others' blocks R. -/
structure Cur (p : Store) (S : List Nat) (σ : Book) (c root : Nat) (R : List Nat) (w : World) (U : List Nat) (v : Value) (ls : List (Lv × Rw)) : Prop where
  pages : p.At w S σ 0
  top : Bk w c 62 #[.iface p.T p.v, .int .i64 root, v]
  row : w.ownsRow 0 66 3 v ls.length (flatL ls)
  blk : ∀ g, v.ownBlock = some g → g ∈ U
  mem : c ∈ U
  lt : ∀ b ∈ U, b < w.heap.size
  rlt : ∀ b ∈ R, b < w.heap.size
  sep : ∀ b ∈ S, b ∉ U ∧ b ∉ R
  ror : ∀ b ∈ U, b ∉ R
  cells : ∀ x ∈ ls, CRow w (fun b => b ∉ U ∧ b ∉ R) x.2 x.1.cells
theorem Cur.off {p : Store} (hp : Serves p) {S : List Nat} {σ : Book} {c root : Nat} {R : List Nat} {w w' : World} {U : List Nat} {v : Value} {ls : List (Lv × Rw)} {X : List Nat} (h : Cur p S σ c root R w U v ls) (ho : Off X w w') (hX : ∀ b ∈ X, b ∈ R) : Cur p S σ c root R w' U v ls where
  pages := hp.off h.pages ho fun b hb hx => (h.sep b hb).2 (hX b hx)
  top := ho.bk h.top fun hx => h.ror c h.mem (hX c hx)
  row := ho.own h.row fun g hg hx => h.ror g (h.blk g hg) (hX g hx)
  blk := h.blk
  mem := h.mem
  lt := fun b hb => Nat.lt_of_lt_of_le (h.lt b hb) ho.size
  rlt := fun b hb => Nat.lt_of_lt_of_le (h.rlt b hb) ho.size
  sep := h.sep
  ror := h.ror
  cells := fun x hx => (h.cells x hx).keep ho.size (fun b hb hlt => ho.block b hlt fun hh => hb.2 (hX b hh)) (fun b hb _ => hb)
theorem Cur.below {p : Store} (hp : Serves p) {S : List Nat} {σ : Book} {c root : Nat} {R : List Nat} {w w' : World} {U : List Nat} {v : Value} {ls : List (Lv × Rw)} (h : Cur p S σ c root R w U v ls) (hb : Below w.heap.size w w') : Cur p S σ c root R w' U v ls := h.off hp (Off.of_below hb []) (by simp)
theorem Cur.renew {p : Store} (hp : Serves p) {S : List Nat} {σ : Book} {c root : Nat} {R : List Nat} {w w' : World} {U U' : List Nat} {v v' : Value} {ls ls' : List (Lv × Rw)} (h : Cur p S σ c root R w U v ls) (ho : Off U w w') (hU : ∀ b ∈ U, b ∈ U') (hf : Fresh w U U') (hlt : ∀ b ∈ U', b < w'.heap.size)
    (ht : Bk w' c 62 #[.iface p.T p.v, .int .i64 root, v']) (hr : w'.ownsRow 0 66 3 v' ls'.length (flatL ls')) (hb : ∀ g, v'.ownBlock = some g → g ∈ U')
    (hc : ∀ x ∈ ls', (∃ y ∈ ls, y.2 = x.2 ∧ y.1.cells = x.1.cells) ∨ CRow w' (fun b => b ∉ U' ∧ b ∉ R) x.2 x.1.cells) : Cur p S σ c root R w' U' v' ls' where
  pages := hp.off h.pages ho fun b hb hx => (h.sep b hb).1 hx
  top := ht
  row := hr
  blk := hb
  mem := hU c h.mem
  lt := hlt
  rlt := fun b hb => Nat.lt_of_lt_of_le (h.rlt b hb) ho.size
  sep := fun b hb => ⟨fun hx => by
    rcases hf b hx with h1 | h1
    · exact (h.sep b hb).1 h1
    · have := hp.old h.pages b hb; omega, (h.sep b hb).2⟩
  ror := fun b hb hr => by
    rcases hf b hb with h1 | h1
    · exact h.ror b h1 hr
    · have := h.rlt b hr; omega
  cells := fun x hx => by
    rcases hc x hx with ⟨y, hy, e1, e2⟩ | h1
    · rw [← e1, ← e2]
      exact (h.cells y hy).keep ho.size (fun b hb hlt => ho.block b hlt hb.1) (fun b hb hlt => ⟨fun hx => by
        rcases hf b hx with h1 | h1
        · exact hb.1 h1
        · omega, hb.2⟩)
    · exact h1
/-- Others' blocks are more, where the cursor is on no key. -/
theorem Cur.wide {p : Store} {S : List Nat} {σ : Book} {c root : Nat} {R R' : List Nat} {w : World} {U : List Nat} {v : Value} (h : Cur p S σ c root R w U v []) (hr : ∀ b ∈ R', b < w.heap.size ∧ b ∉ S ∧ b ∉ U) : Cur p S σ c root R' w U v [] :=
  ⟨h.pages, h.top, h.row, h.blk, h.mem, h.lt, fun b hb => (hr b hb).1, fun b hb => ⟨(h.sep b hb).1, fun hh => (hr b hh).2.1 hb⟩, fun b hb hh => (hr b hh).2.2 hb, fun x hx => by cases hx⟩
set_option maxHeartbeats 4000000 in
theorem cnew_any {p : Store} (hp : Serves p) {S : List Nat} {σ : Book} {w : World} (root : Nat) (h : p.At w S σ 0) :
    Calls Try.prog 10 #[.iface p.T p.v, .int .i64 root] w (fun e w' => ∃ c, e = .returned (.pointer (some ⟨c, 0, none⟩)) ∧ Below w.heap.size w w' ∧ w.heap.size ≤ c ∧ Cur p S σ c root [] w' [c] (.slice none 0 0) []) := by
  have HA := Lib.hid h
  have HO := Lib.hid (hp.old h)
  clear h
  go_enter Try.func10, Try.ntmps10
  go_wp2_with fail
  go_ret
  refine ⟨w.heap.size, rfl, (Below.refl _ w).alloc (Nat.le_refl _) _, Nat.le_refl _, hp.off HA.out ((Off.refl [] w).alloc _) (by simp), Bk.new w _ _, World.ownsRow_nil _ _ _ _, (by intro g hg; cases hg), by simp, by simp, by simp, fun b hb => ⟨fun hh => ?_, by simp⟩, by simp, by simp⟩
  rw [List.mem_singleton] at hh
  have := HO.out b hb
  omega
set_option maxHeartbeats 8000000 in
theorem coff_any {p : Store} (hp : Serves p) {S : List Nat} {σ : Book} {c root : Nat} {R : List Nat} {w : World} {U : List Nat} {v : Value} {ls : List (Lv × Rw)} (h : Cur p S σ c root R w U v ls) (e0 : Int) :
    Calls Try.prog 45 #[.pointer (some ⟨c, 0, none⟩), .int .i64 e0] w (fun e w' => e = .returned (.tuple #[.bool false, .int .i64 e0]) ∧ Off U w w' ∧ Cur p S σ c root R w' U (.slice none 0 0) []) := by
  have t2 := h.top.cell 2
  have f2 := h.top.frozen 2
  have l2 := h.top.lt
  have HC := Lib.hid h
  clear h
  go_enter Try.func45, Try.ntmps45
  go_wp2_with fail
  go_ret2
  have ho : Off U w (w.setCell ⟨c, 2, none⟩ (.slice none 0 0)) := (Off.refl _ _).setCell (.inl HC.out.mem) _
  exact ⟨rfl, ho, HC.out.renew hp ho (fun _ h => h) (Fresh.refl _ _) (fun b hb => Nat.lt_of_lt_of_le (HC.out.lt b hb) ho.size) (HC.out.top.put 2 _) (World.ownsRow_nil _ _ _ _) (by intro g hg; cases hg) (by simp)⟩
theorem Bk.threeSet {w : World} {q : Nat} {t : TypeId} {v0 v1 v2 : Value} (h : Bk w q t #[v0, v1, v2]) (a0 a1 a2 : Value) :
    (w.setCell ⟨q, 0, none⟩ a0).cell? ⟨q, 0, none⟩ = some a0 ∧ ((w.setCell ⟨q, 0, none⟩ a0).setCell ⟨q, 1, none⟩ a1).cell? ⟨q, 1, none⟩ = some a1 ∧ (((w.setCell ⟨q, 0, none⟩ a0).setCell ⟨q, 1, none⟩ a1).setCell ⟨q, 2, none⟩ a2).cell? ⟨q, 2, none⟩ = some a2 := by
  have h0 := h.put 0 a0
  have h1 := h0.put 1 a1
  have h2 := h1.put 2 a2
  exact ⟨h0.cell 0, h1.cell 1, h2.cell 2⟩
theorem lv_end {w w2 : World} {leaf : Bool} {A : Option Addr} {n c : Nat} {cs : List Ce} {a0 a1 a2 : Value} (hb : Below w.heap.size w w2) (h : CRow w2 (fun b => w.heap.size < b) ⟨A, n, c⟩ cs) :
    Below w.heap.size w (((w2.setCell ⟨w.heap.size, 0, none⟩ a0).setCell ⟨w.heap.size, 1, none⟩ a1).setCell ⟨w.heap.size, 2, none⟩ a2) ∧ ∃ q : Rw, Ending.returned (.tuple #[.agg #[.bool leaf, .slice A n c, .int .i64 0], .int .i64 0]) = .returned (.tuple #[.agg #[.bool leaf, .slice q.A q.n q.c, .int .i64 0], .int .i64 0]) ∧
      CRow (((w2.setCell ⟨w.heap.size, 0, none⟩ a0).setCell ⟨w.heap.size, 1, none⟩ a1).setCell ⟨w.heap.size, 2, none⟩ a2) (fun b => w.heap.size ≤ b) q cs := by
  have ho : Off [w.heap.size] w2 (((w2.setCell ⟨w.heap.size, 0, none⟩ a0).setCell ⟨w.heap.size, 1, none⟩ a1).setCell ⟨w.heap.size, 2, none⟩ a2) := (((Off.refl _ _).setCell (.inl (by simp)) _).setCell (.inl (by simp)) _).setCell (.inl (by simp)) _
  exact ⟨((Off.of_below hb []).then ho (fun g hg => by rw [List.mem_singleton] at hg; subst hg; exact .inr (Nat.le_refl _))).below (Nat.le_refl _) (by simp), ⟨A, n, c⟩, rfl, h.keep ho.size (fun b hb hlt => ho.block b hlt (by rw [List.mem_singleton]; omega)) (fun b hb _ => Nat.le_of_lt hb)⟩
set_option maxHeartbeats 8000000 in
theorem cload_ok {p : Store} (hp : Serves p) {S : List Nat} {σ : Book} {c root : Nat} {R : List Nat} {w : World} {U : List Nat} {v : Value} {ls : List (Lv × Rw)} (h : Cur p S σ c root R w U v ls) (hl : ls.length < 10) (no : Nat) (leaf : Bool) (cs : List Ce) (hσ : σ no = some ⟨if leaf then 1 else 2, Nd.str leaf cs⟩) (hr : Nd.right leaf cs = true) (hs : Nd.sum leaf cs ≤ 488) (hne : cs ≠ []) :
    Calls Try.prog 53 #[.pointer (some ⟨c, 0, none⟩), .int .i64 no] w (fun e w' => Below w.heap.size w w' ∧ ∃ q : Rw, e = .returned (.tuple #[.agg #[.bool leaf, .slice q.A q.n q.c, .int .i64 0], .int .i64 0]) ∧ CRow w' (fun b => w.heap.size ≤ b) q cs) := by
  obtain ⟨f, r, hn, hm, he, hld⟩ := hp.load
  obtain ⟨wA, wc, rfl, -, -⟩ := own_form h.row
  have t0 := h.top.cell 0
  have t2 := h.top.cell 2
  have l0 := h.top.lt
  have HL := Lib.hid fun (W : World) (hb : Below w.heap.size w W) => hld W S σ 0 no _ (hp.below h.pages hb) hσ
  have HD := Lib.hid fun (W : World) => decode_ok leaf cs W hr hs
  obtain ⟨s, hs9⟩ : ∃ s, s = Nd.str leaf cs := ⟨_, rfl⟩
  rw [← hs9] at HL HD
  have z1 : decide ((10 : Int) ≤ (ls.length : Int)) = false := decide_eq_false (by omega)
  have z2 : decide (10 ≤ ls.length) = false := decide_eq_false (by omega)
  have hcl : 0 < cs.length := List.length_pos_iff.2 hne
  have z3 : ((cs.length : Int) == 0) = false := by rw [beq_eq_false_iff_ne]; omega
  have z4 : (cs.length == 0) = false := by rw [beq_eq_false_iff_ne]; omega
  have HT := Lib.hid h.top
  clear hld h hσ hs9 hr hs hne
  cases leaf
  all_goals
    go_enter Try.func53, Try.ntmps53
    go_wp2_with fail
    refine (HL.out _ ((Below.refl _ _).alloc (Nat.le_refl _) _)).mono ?_
    rintro e w1 ⟨hb1, a, b, rfl⟩
    have HB1 := Lib.hid (((Below.refl _ w).alloc (Nat.le_refl _) _).trans (hb1.mono (by simp)))
    have HZ1 := Lib.hid (bk_below (Bk.new w _ _) hb1)
    have HC1 := Lib.hid (bk_below HT.out HB1.out)
    have c2 := HC1.out.cell 2
    have lc := HC1.out.lt
    clear hb1
    go_wp2_with fail
    refine (HD.out _).mono ?_
    rintro e w2 ⟨hb2, A, c3, rfl, hown⟩
    have HB2 := Lib.hid ((HB1.out.alloc HB1.out.size _).trans (hb2.mono (by have := HB1.out.size; simp; omega)))
    have HZ2 := Lib.hid (bk_below (HZ1.out.alloc _) hb2)
    obtain ⟨q, hq, hrow⟩ := hown.row
    obtain ⟨qA, qn, qc⟩ := q
    simp only at hq
    injection hq with e1 e2 e3
    subst e1 e2 e3
    have hw1 := HB1.out.size
    have hz1 : w.heap.size < w1.heap.size := HZ1.out.lt
    have HROW := Lib.hid (show CRow w2 (fun b => w.heap.size < b) ⟨A, cs.length, c3⟩ cs from hrow.keep (Nat.le_refl _) (fun _ _ _ => rfl) (fun b hb _ => by simp at hb; omega))
    have lz := HZ2.out.lt
    obtain ⟨y0, y1, y2, x0, x1, x2⟩ : w2.cell? ⟨w.heap.size, 0, none⟩ = some (.bool false) ∧ w2.cell? ⟨w.heap.size, 1, none⟩ = some (.slice none 0 0) ∧ w2.cell? ⟨w.heap.size, 2, none⟩ = some (.int .i64 0) ∧ w2.frozen? ⟨w.heap.size, 0, none⟩ = false ∧ w2.frozen? ⟨w.heap.size, 1, none⟩ = false ∧ w2.frozen? ⟨w.heap.size, 2, none⟩ = false := ⟨HZ2.out.cell 0, HZ2.out.cell 1, HZ2.out.cell 2, HZ2.out.frozen 0, HZ2.out.frozen 1, HZ2.out.frozen 2⟩
    clear hb2 hown hrow c2 t0 t2
    go_wp2_with fail
    first
      | (obtain ⟨s0, s1, s2⟩ := HZ2.out.threeSet (.bool false) (.slice A cs.length c3) (.int .i64 0); refine bodyPost_ret (v := .tuple #[.agg #[.bool false, .slice A cs.length c3, .int .i64 0], .int .i64 0]) (by simp [results, Try.results53, go_sem, lz, s0, s1, s2]) rfl (lv_end HB2.out HROW.out))
      | (obtain ⟨s0, s1, s2⟩ := HZ2.out.threeSet (.bool true) (.slice A cs.length c3) (.int .i64 0); refine bodyPost_ret (v := .tuple #[.agg #[.bool true, .slice A cs.length c3, .int .i64 0], .int .i64 0]) (by simp [results, Try.results53, go_sem, lz, s0, s1, s2]) rfl (lv_end HB2.out HROW.out))
      | fail
end Go.Proofs.Ytllafbcnikoohaa
/- A cursor: what chooses a place; down. -/
namespace Go.Proofs.Ytllafbcnikoohaa
open Go.RowKit
set_option maxRecDepth 100000
set_option linter.unusedVariables false
set_option linter.unusedSimpArgs false
/-- Blocks that are as they were. -/
def Kept (X : List Nat) (w0 W : World) : Prop := ∀ b ∈ X, b < W.heap.size ∧ W.heap[b]? = w0.heap[b]?
/-- What chooses a place among a node's cells. -/
structure ChOk (fc : Nat) (caps : Array Value) (X : List Nat) (w0 : World) (ch : List Ce → Nat) : Prop where
  enter : ∀ args W, Sem.run Try.prog (callFunc fc args) W = .ok (.enter fc args) W
  does : ∀ (W : World), Kept X w0 W → ∀ (leaf : Bool) (q : Rw) (T : Nat → Prop) (cs : List Ce), CRow W T q cs → cs ≠ [] → cs.length ≤ 300 → Calls Try.prog fc (#[.agg #[.bool leaf, .slice q.A q.n q.c, .int .i64 0]] ++ caps) W (fun e w' => e = .returned (.int .i64 (ch cs)) ∧ Below W.heap.size W w')
set_option maxHeartbeats 4000000 in
theorem head_ok (w0 : World) : ChOk 29 #[] [] w0 (fun _ => 0) := by
  refine ⟨fun args W => Try.call29 args W, fun W _ leaf q T cs hr hne hl => ?_⟩
  go_enter Try.func29, Try.ntmps29
  go_wp2_with fail
  go_ret
  exact ⟨rfl, (Below.refl _ W).alloc (Nat.le_refl _) _⟩
set_option maxHeartbeats 4000000 in
theorem tail_ok (w0 : World) : ChOk 30 #[] [] w0 (fun l => l.length - 1) := by
  refine ⟨fun args W => Try.call30 args W, fun W _ leaf q T cs hr hne hl => ?_⟩
  obtain ⟨qA, qn, qc⟩ := q
  obtain ⟨h1, h2, h3, -⟩ := hr
  simp only at h1 h2 h3 ⊢
  have hp : 0 < cs.length := List.length_pos_iff.2 hne
  subst h1
  have hq1 : (cs.length : Int) - 1 = ((cs.length - 1 : Nat) : Int) := by omega
  clear h2 h3 hne
  go_enter Try.func30, Try.ntmps30
  go_wp2_with fail
  go_ret
  exact ⟨rfl, (Below.refl _ W).alloc (Nat.le_refl _) _⟩
set_option maxHeartbeats 8000000 in
theorem seek_ok (w0 : World) (kb : Nat) (key : ByteArray) (hk : Bk w0 kb 9 #[.string key]) : ChOk 26 #[.pointer (some ⟨kb, 0, none⟩)] [kb] w0 (Tr.seekAt key) := by
  refine ⟨fun args W => Try.call26 args W, fun W hkept leaf q T cs hr hne hl => ?_⟩
  obtain ⟨hlt, hb⟩ := hkept kb (by simp)
  have hk2 : Bk W kb 9 #[.string key] := hb.trans hk
  have k0 := hk2.cell 0
  have hp : 0 < cs.length := List.length_pos_iff.2 hne
  obtain ⟨qA, qn, qc⟩ := q
  have hr0 := hr
  obtain ⟨h1, h2, h3, -⟩ := hr0
  simp only at h1 h2 h3 ⊢
  subst h1
  have hq1 : (cs.length : Int) - 1 = ((cs.length - 1 : Nat) : Int) := by omega
  have hr2 := hr.below ((Below.refl _ W).alloc (Nat.le_refl _) (.cells #[.bool leaf, .slice qA cs.length qc, .int .i64 0] 66))
  have HR := Lib.hid hr2
  have HK2 := Lib.hid hk2
  clear hr h2 h3 hk2 hb hne hr2
  go_enter Try.func26, Try.ntmps26
  go_wp2_with fail
  have HRES := Lib.hid (rfl : Tr.seekAt key cs = Tr.seekDown cs key (cs.length - 1))
  go_loopw [4] (fun i wr => (wr.heap = (W.alloc (.cells #[.bool leaf, .slice qA cs.length qc, .int .i64 0] 66)).heap ∧ Below W.heap.size W wr) ∧ ∃ j : Nat, i = .int .i64 j ∧ j < cs.length ∧ Tr.seekAt key cs = Tr.seekDown cs key j) (fun i _ => (intOf i).toNat)
  case atStart => exact ⟨⟨rfl, (Below.refl _ W).alloc (Nat.le_refl _) _⟩, cs.length - 1, rfl, by omega, rfl⟩
  case round =>
    obtain ⟨⟨hwr, hbw⟩, j, rfl, hj, hs⟩ := hrel
    have hkw : Bk wr kb 9 #[.string key] := by unfold Bk; rw [hwr]; exact HK2.out.alloc _
    have k0 := hkw.cell 0
    have hxw : Bk wr W.heap.size 66 #[.bool leaf, .slice qA cs.length qc, .int .i64 0] := by unfold Bk; rw [hwr]; exact Bk.new W _ _
    have x1 := hxw.cell 1
    have lw : W.heap.size < wr.heap.size := hxw.lt
    have hrw : CRow wr T ⟨qA, cs.length, qc⟩ cs := HR.out.keep (by rw [hwr]; exact Nat.le_refl _) (fun b _ _ => by rw [hwr]) (fun b hb _ => hb)
    have HWR := Lib.hid (show wr.heap = (W.alloc (.cells #[.bool leaf, .slice qA cs.length qc, .int .i64 0] 66)).heap ∧ Below W.heap.size W wr from ⟨hwr, hbw⟩)
    have HC := Lib.hid hrw.at
    clear hwr hbw hkw hxw hrw
    cases j with
    | zero =>
      have HS := Lib.hid hs
      clear hs
      have z1 : decide ((0 : Int) < ((0 : Nat) : Int)) = false := rfl
      go_wp2_with fail
      go_quiet (fail)
      go_wp2_with fail
      go_ret
      exact ⟨by rw [HS.out]; rfl, below_drewN HWR.out.2 _⟩
    | succ m =>
      have z1 : decide ((0 : Int) < ((m + 1 : Nat) : Int)) = true := decide_eq_true (by omega)
      obtain ⟨b, o, hA, -, q0, -⟩ := HC.out (m + 1) hj
      subst hA
      cases hlt : Nd.lt key (cs[m + 1]).key with
      | true =>
        have y1 : Op.bytesLess key.toList (cs[m + 1]).key.toList = true := hlt
        have y2 : Op.bytesLess (cs[m + 1]).key.toList key.toList = false := Nd.lt_asymm hlt
        have y3 := (Nd.lt_ne hlt).2
        have y4 := (Nd.lt_ne hlt).1
        have hse : Tr.seekDown cs key (m + 1) = Tr.seekDown cs key m := by
          have : Nd.lt key (cs.getD (m + 1) Ce.zero).key = true := by rw [List.getD_eq_getElem?_getD, List.getElem?_eq_getElem hj]; exact hlt
          simp only [Tr.seekDown, this, if_true]
        have HS := Lib.hid (hs.trans hse)
        clear hs hse
        go_wp2_with fail
        go_quiet (fail)
        go_wp2_with fail
        go_roundw
        case rel => exact ⟨⟨HWR.out.1, below_drewN HWR.out.2 _⟩, m, by go_num, by omega, HS.out⟩
        case measure => simp [intOf]
      | false =>
        have y1 : Op.bytesLess key.toList (cs[m + 1]).key.toList = false := hlt
        have hse : Tr.seekDown cs key (m + 1) = m + 1 := by
          have : Nd.lt key (cs.getD (m + 1) Ce.zero).key = false := by rw [List.getD_eq_getElem?_getD, List.getElem?_eq_getElem hj]; exact hlt
          simp only [Tr.seekDown, this]
          rfl
        have HS := Lib.hid (hs.trans hse)
        clear hs hse
        rcases Nd.lt_total (cs[m + 1]).key key with ht | ht | ht
        · have y2 : Op.bytesLess (cs[m + 1]).key.toList key.toList = true := ht
          go_wp2_with fail
          go_quiet (fail)
          go_wp2_with fail
          go_ret
          exact ⟨by rw [HS.out]; rfl, below_drewN HWR.out.2 _⟩
        · have y2 : ((cs[m + 1]).key.toList == key.toList) = true := by rw [ht]; simp
          have y3 : Op.bytesLess (cs[m + 1]).key.toList key.toList = false := by rw [ht]; exact Nd.lt_irrefl _
          go_wp2_with fail
          go_quiet (fail)
          go_wp2_with fail
          go_ret
          exact ⟨by rw [HS.out]; rfl, below_drewN HWR.out.2 _⟩
        · rw [hlt] at ht; cases ht
end Go.Proofs.Ytllafbcnikoohaa
/- A cursor: down. -/
namespace Go.Proofs.Ytllafbcnikoohaa
open Go.RowKit
set_option maxRecDepth 100000
set_option linter.unusedVariables false
set_option linter.unusedSimpArgs false
/-- A way's first level: its page. -/
theorem Tr.On.step {σ : Book} {d no : Nat} {L : List En} {i : Nat} {way : List Lv} (h : Tr.On σ d no L i way) : ∃ (x : Lv) (rest : List Lv), way = x :: rest ∧ σ no = some ⟨if x.leaf then 1 else 2, Nd.str x.leaf x.cells⟩ ∧ Nd.right x.leaf x.cells = true ∧ Nd.sum x.leaf x.cells ≤ 488 ∧ x.idx < x.cells.length ∧
    ((x.leaf = true ∧ rest = []) ∨ (x.leaf = false ∧ ∃ (d' : Nat) (c : Ce) (L' : List En) (i' : Nat), x.cells[x.idx]? = some c ∧ Tr.On σ d' c.child L' i' rest)) := by
  cases d with
  | zero =>
    obtain ⟨h1, h2, rfl⟩ := h
    exact ⟨_, _, rfl, h1.page, h1.right, h1.sum, by rw [List.length_map]; exact h2, .inl ⟨rfl, rfl⟩⟩
  | succ d =>
    obtain ⟨ks, j, i', rest, k, h1, rfl, h3, h4, rfl, rfl⟩ := h
    exact ⟨_, _, rfl, h1.page, h1.right, h1.sum, by rw [List.length_map]; exact (List.getElem?_eq_some_iff.1 h3).1, .inr ⟨rfl, d, k.cell, k.L, i', by rw [List.getElem?_map, h3]; rfl, h4⟩⟩
def wayLen (w : World) (c : Nat) : Nat := match w.cell? ⟨c, 2, none⟩ with | some (.slice _ n _) => n | _ => 0
theorem info_lv : (Try.prog.info? 66).map (fun i => (i.zero, i.size, i.bytes)) = some (some (.agg #[.bool false, .slice none 0 0, .int .i64 0]), 3, 40) := by kernel_rfl
theorem Cur.push {p : Store} (hp : Serves p) {S : List Nat} {σ : Book} {c root : Nat} {R : List Nat} {w wa w3 : World} {U : List Nat} {v : Value} {ls : List (Lv × Rw)} (h : Cur p S σ c root R w U v ls) (x : Lv) (q : Rw) (hr : CRow w (fun b => b ∉ U ∧ b ∉ R) q x.cells) (ha : Off [] w wa) (hg : wa.grownBy w3 v.ownBlock) {b cap H : Nat}
    (ho : w3.ownsRow 0 66 3 (.slice (some ⟨b, 0, none⟩) (ls.length + 1) cap) (ls.length + 1) (flatL ls ++ [.bool x.leaf, .slice q.A q.n q.c, .int .i64 x.idx])) (hat : v.ownBlock = some b ∨ b = H) (hH : w.heap.size ≤ H) (hlt : b < w3.heap.size) :
    Cur p S σ c root R (w3.setCell ⟨c, 2, none⟩ (.slice (some ⟨b, 0, none⟩) (ls.length + 1) cap)) (b :: U) (.slice (some ⟨b, 0, none⟩) (ls.length + 1) cap) (ls ++ [(x, q)]) ∧ Off U w (w3.setCell ⟨c, 2, none⟩ (.slice (some ⟨b, 0, none⟩) (ls.length + 1) cap)) ∧ Fresh w U (b :: U) := by
  have ho3 : Off U w w3 := (ha.mono (by simp)).grown hg (fun g hg => .inl (h.blk g hg))
  have hc3 : Bk w3 c 62 #[.iface p.T p.v, .int .i64 root, v] := by
    have hn : v.ownBlock ≠ some c := own_ne h.row h.top (by decide)
    have ho9 : Off v.ownBlock.toList w w3 := (ha.mono (by simp)).grown hg (fun g hg => .inl (by rw [Option.mem_toList]; exact hg))
    exact ho9.bk h.top (fun hh => hn (Option.mem_toList.1 hh))
  have hbc : b ≠ c := fun e => own_ne ho hc3 (by decide) (by rw [e]; rfl)
  have ho6 : Off U w (w3.setCell ⟨c, 2, none⟩ (.slice (some ⟨b, 0, none⟩) (ls.length + 1) cap)) := ho3.setCell (.inl h.mem) _
  have hf : Fresh w U (b :: U) := fun y hy => by
    rcases List.mem_cons.1 hy with rfl | hy
    · rcases hat with h1 | h1
      · exact .inl (h.blk _ h1)
      · exact .inr (by omega)
    · exact .inl hy
  refine ⟨h.renew hp ho6 (fun y hy => List.mem_cons_of_mem _ hy) hf (fun y hy => ?_) (hc3.put 2 _) ?_ (fun g hg => ?_) (fun y hy => ?_), ho6, hf⟩
  · rcases List.mem_cons.1 hy with rfl | hy
    · simpa using hlt
    · exact Nat.lt_of_lt_of_le (h.lt y hy) ho6.size
  · rw [flatL_app, flatL_one, List.length_append]
    exact ((Off.refl [c] w3).setCell (p := ⟨c, 2, none⟩) (.inl (by simp)) _).own ho (fun g hg hm => by
      have e : b = g := by simpa [Value.ownBlock] using hg
      rw [List.mem_singleton] at hm
      omega)
  · have e : b = g := by simpa [Value.ownBlock] using hg
    simp [e]
  · rcases List.mem_append.1 hy with hy | hy
    · exact .inl ⟨y, hy, rfl, rfl⟩
    · rw [List.mem_singleton] at hy
      subst hy
      refine .inr (hr.keep ho6.size (fun z hz hlt => ho6.block z hlt hz.1) (fun z hz hlt => ⟨fun hm => ?_, hz.2⟩))
      rcases hf z hm with h1 | h1
      · exact hz.1 h1
      · omega
/-- A call leaves the cursor on a way. -/
def CurTo (p : Store) (S : List Nat) (σ : Book) (c root : Nat) (R : List Nat) (w : World) (U : List Nat) (way : List Lv) (w' : World) : Prop :=
  ∃ (U' : List Nat) (v : Value) (ls : List (Lv × Rw)), ls.map Prod.fst = way ∧ Cur p S σ c root R w' U' v ls ∧ Off U w w' ∧ Fresh w U U' ∧ ∀ b ∈ U, b ∈ U'
set_option maxHeartbeats 16000000 in
theorem down_ok {p : Store} (hp : Serves p) {S : List Nat} {σ : Book} {c root : Nat} {R : List Nat} {w : World} {U : List Nat} {v : Value} {ls : List (Lv × Rw)} (h : Cur p S σ c root R w U v ls) {fc : Nat} {caps : Array Value} {X : List Nat} {ch : List Ce → Nat} (hch : ChOk fc caps X w ch) (hX : ∀ b ∈ X, b < w.heap.size ∧ b ∉ U)
    {d no : Nat} {L : List En} {i : Nat} {way : List Lv} (hd : Tr.Dn σ ch d no L i way) (hl : ls.length + way.length ≤ 10) :
    Calls Try.prog 44 #[.pointer (some ⟨c, 0, none⟩), .int .i64 no, .func (.func fc) #[] caps] w (fun e w' => e = .returned (.tuple #[.bool true, .int .i64 0]) ∧ CurTo p S σ c root R w U (ls.map Prod.fst ++ way) w') := by
  have he := hch.enter
  have HCH := Lib.hid hch.does
  have HC := Lib.hid h
  have HX := Lib.hid hX
  have HD := Lib.hid hd
  obtain ⟨inf, hi, iz0, iz1, iz2⟩ := info_parts info_lv
  clear h hX hd hch
  go_enter Try.func44, Try.ntmps44
  go_wp2_with fail
  go_loopw [1] (fun n wr => ∃ (no' : Nat) (dn : List (Lv × Rw)) (U' : List Nat) (v' : Value) (d' : Nat) (L' : List En) (i' : Nat) (rest : List Lv), n = .int .i64 no' ∧ Cur p S σ c root R wr U' v' (ls ++ dn) ∧ way = dn.map Prod.fst ++ rest ∧ Tr.On σ d' no' L' i' rest ∧ Off U w wr ∧ Fresh w U U' ∧ ∀ b ∈ U, b ∈ U') (fun _ wr => 20 - wayLen wr c)
  case atStart => exact ⟨no, [], U, v, d, L, i, way, rfl, by rw [List.append_nil]; exact HC.out, rfl, HD.out.1, Off.refl _ _, Fresh.refl _ _, fun _ h => h⟩
  case round =>
    obtain ⟨no', dn, U', v', d', L', i', rest, rfl, hc, hw, hon, hof, hfr, hsub⟩ := hrel
    obtain ⟨x, rest', rfl, hpg, hri, hsm, hix, hnx⟩ := hon.step
    have hlen : (ls ++ dn).length < 10 := by
      have : way.length = dn.length + (rest'.length + 1) := by rw [hw]; simp
      rw [List.length_append]; omega
    have hxi : x.idx = ch x.cells := HD.out.2 x (by rw [hw]; simp)
    have hne : x.cells ≠ [] := by intro e; rw [e] at hix; simp at hix
    have hcl : x.cells.length ≤ 300 := by have := Nd.sum_ge x.leaf x.cells; omega
    have hkx : Kept X w wr := fun b hb => ⟨Nat.lt_of_lt_of_le (HX.out b hb).1 hof.size, hof.block b (HX.out b hb).1 (HX.out b hb).2⟩
    obtain ⟨lz, hlz⟩ : ∃ lz, lz = ls ++ dn := ⟨_, rfl⟩
    rw [← hlz] at hc hlen
    have hwl : wayLen wr c = lz.length := by
      obtain ⟨A, cc, rfl, -, -⟩ := own_form hc.row
      unfold wayLen
      rw [hc.top.cell 2]
      rfl
    have HLD := Lib.hid (cload_ok hp hc hlen no' x.leaf x.cells hpg hri hsm hne)
    have HWL := Lib.hid hwl
    have HLZ := Lib.hid hlz
    clear hlz
    have HON := Lib.hid hon
    have HCU := Lib.hid hc
    have HW := Lib.hid hw
    have HNX := Lib.hid hnx
    have HFR := Lib.hid (show Off U w wr ∧ Fresh w U U' ∧ ∀ b ∈ U, b ∈ U' from ⟨hof, hfr, hsub⟩)
    have HKX := Lib.hid hkx
    clear hc hw hon hof hfr hsub hpg hri hsm hnx hkx hwl
    go_wp2_with fail
    refine HLD.out.mono ?_
    rintro e w1 ⟨hb1, q, rfl, hrow1⟩
    obtain ⟨qA, qn, qc⟩ := q
    have hqn : qn = x.cells.length := hrow1.1
    subst hqn
    have HB1 := Lib.hid hb1
    have HROW1 := Lib.hid hrow1
    have hcu1 := HCU.out.below hp hb1
    obtain ⟨A, cc, hv, -, hcc⟩ := own_form hcu1.row
    rw [hv] at hcu1
    have HC1 := Lib.hid hcu1
    have HCHW := Lib.hid fun (W : World) (hb : Below w1.heap.size w1 W) => HCH.out W (fun b hb9 => ⟨Nat.lt_of_lt_of_le (HKX.out b hb9).1 (Nat.le_trans hb1.size hb.size), ((hb.block b (Nat.lt_of_lt_of_le (HKX.out b hb9).1 hb1.size)).trans (hb1.block b (HKX.out b hb9).1)).trans (HKX.out b hb9).2⟩) x.leaf ⟨qA, x.cells.length, qc⟩ _ x.cells (hrow1.below hb) hne hcl
    rw [← hxi] at HCHW
    clear hxi
    clear hb1 hrow1 hcu1
    go_wp2_with fail
    refine (HCHW.out _ ((Below.refl _ _).alloc (Nat.le_refl _) _)).mono ?_
    rintro e w2 ⟨rfl, hb2⟩
    obtain ⟨r0, r1, r2, l2, hn2, hk2⟩ := three_after hb2
    have HN2 := Lib.hid hn2
    have HK2 := Lib.hid hk2
    have g2 := hk2.frozen 2
    have hcu2 := HC1.out.below hp hn2
    have c2 := hcu2.top.cell 2
    have f2 := hcu2.top.frozen 2
    have lc := hcu2.top.lt
    have HC2 := Lib.hid hcu2
    clear hb2 hn2 hk2 hcu2
    go_wp2_with fail
    have hb5 : Below w1.heap.size w1 (w2.setCell ⟨w1.heap.size, 2, none⟩ (.int .i64 x.idx)) := ((Off.of_below HN2.out []).setCell (p := ⟨w1.heap.size, 2, none⟩) (.inr (Nat.le_refl _)) _).below (Nat.le_refl _) (by simp)
    have hk5 : Bk (w2.setCell ⟨w1.heap.size, 2, none⟩ (.int .i64 x.idx)) w1.heap.size 66 #[.bool x.leaf, .slice qA x.cells.length qc, .int .i64 x.idx] := HK2.out.put 2 _
    clear r0 r1 r2 l2 g2 c2 f2 lc
    generalize w2.setCell ⟨w1.heap.size, 2, none⟩ (.int .i64 x.idx) = w5 at hb5 hk5 ⊢
    have hcu5 := HC1.out.below hp hb5
    have hrow5 : CRow w5 (fun b => b ∉ U' ∧ b ∉ R) ⟨qA, x.cells.length, qc⟩ x.cells := HROW1.out.keep hb5.size (fun b _ hlt => hb5.block b hlt) (fun b hb hlt => ⟨fun hm => by have := HCU.out.lt b hm; omega, fun hm => by have := HCU.out.rlt b hm; omega⟩)
    have hnq : ∀ g, Value.ownBlock (.slice A lz.length cc) = some g → g ≠ c ∧ g ≠ w1.heap.size := fun g hg => ⟨fun e => own_ne hcu5.row hcu5.top (by decide) (e ▸ hg), fun e => by have := HC1.out.lt g (HC1.out.blk g hg); omega⟩
    have HKS := Lib.hid (show ∀ W, Off (Value.ownBlock (.slice A lz.length cc)).toList w5 W → W.cell? ⟨c, 2, none⟩ = some (.slice A lz.length cc) ∧ W.cell? ⟨w1.heap.size, 0, none⟩ = some (.bool x.leaf) ∧ W.cell? ⟨w1.heap.size, 1, none⟩ = some (.slice qA x.cells.length qc) ∧ W.cell? ⟨w1.heap.size, 2, none⟩ = some (.int .i64 x.idx) from fun W hW => by
      have b1 := hW.bk hcu5.top (fun hm => (hnq c (Option.mem_toList.1 hm)).1 rfl)
      have b2 := hW.bk hk5 (fun hm => (hnq _ (Option.mem_toList.1 hm)).2 rfl)
      exact ⟨b1.cell 2, b2.cell 0, b2.cell 1, b2.cell 2⟩)
    have HGR := Lib.hid (show ∀ W W3, Off [] w5 W → W.grownBy W3 (Value.ownBlock (.slice A lz.length cc)) → Off (Value.ownBlock (.slice A lz.length cc)).toList w5 W3 from fun W W3 h1 h2 => (h1.mono (by simp)).grown h2 (fun g hg => .inl (by rw [Option.mem_toList]; exact hg)))
    have HFZ := Lib.hid (show ∀ W, Off (Value.ownBlock (.slice A lz.length cc)).toList w5 W → W.frozen? ⟨c, 2, none⟩ = false ∧ c < W.heap.size from fun W hW => by
      have b1 := hW.bk hcu5.top (fun hm => (hnq c (Option.mem_toList.1 hm)).1 rfl)
      exact ⟨b1.frozen 2, b1.lt⟩)
    have HC5 := Lib.hid hcu5
    have HK5 := Lib.hid hk5
    have HIX := Lib.hid hix
    have HR5 := Lib.hid hrow5
    have HOWN := Lib.hid hcu5.row
    have HB5 := Lib.hid hb5
    have hlen2 : lz.length ≤ 10 := by omega
    have HI := Lib.hid hi
    have HZ0 := Lib.hid iz0
    have HZ1 := Lib.hid iz1
    have HZ2 := Lib.hid iz2
    clear hb5 hk5 hcu5 hrow5 hnq hi iz0 iz1 iz2
    obtain ⟨a0, a1, a2, a3⟩ := HKS.out w5 (Off.refl _ _)
    obtain ⟨a4, a5⟩ := HFZ.out w5 (Off.refl _ _)
    have HKX5 := Lib.hid HKS.out
    clear HKX5
    first
      | go_region_law ((refine step_append_lies _ (by rfl) _ _ 60 (by rfl) 0 66 inf (.agg #[.bool false, .slice none 0 0, .int .i64 0]) 3 40 Try.underlying60 HI.out HZ0.out HZ1.out HZ2.out (by rfl) (by omega) _ _ _ (by rfl) (HOWN.out.alloc _) _ 1 1 [.bool x.leaf, .slice qA x.cells.length qc, .int .i64 x.idx] (by rfl) (by rfl) (World.news_of_block (cs := #[.bool x.leaf, .slice qA x.cells.length qc, .int .i64 x.idx]) (heap_alloc_new w5 _)) (flatL_one' (x, ⟨qA, x.cells.length, qc⟩)) (by omega) (by unfold maxLen; omega) (by omega) (Nat.zero_le _) (w5.heap.size + 1) (by simp) ?_; intro b cap w3 hown3 hgrow3 hat3 hlt3; have ho3 := Lib.hid (HGR.out _ w3 (((Off.refl [] w5).alloc _).drew) hgrow3); have HPU := Lib.hid (HC5.out.push hp x ⟨qA, x.cells.length, qc⟩ HR5.out (((Off.refl [] w5).alloc _).drew) hgrow3 hown3 hat3 (by omega) hlt3); obtain ⟨z1, z2⟩ := HFZ.out _ ho3.out; have z3 := (HKS.out _ ho3.out).1;  clear hown3 hgrow3 hat3))
      | fail
    all_goals
      obtain ⟨hc6, ho6, hf6⟩ := HPU.out
      have hk6 := ho6.bk HK5.out (fun hm => by have := HC1.out.lt _ hm; omega)
      have d0 := hk6.cell 0
      have d1 := hk6.cell 1
      have d2 := hk6.cell 2
      have ld := hk6.lt
      have hoff6 : Off U w (w3.setCell ⟨c, 2, none⟩ (.slice (some ⟨b, 0, none⟩) (lz.length + 1) cap)) := HFR.out.1.then (((Off.of_below HB1.out U').trans (Off.of_below HB5.out U')).trans ho6) HFR.out.2.1
      have hfr6 : Fresh w U (b :: U') := HFR.out.2.1.trans (hf6.mono (Nat.le_trans HB1.out.size HB5.out.size)) HFR.out.1.size
      have hsub6 : ∀ y ∈ U, y ∈ b :: U' := fun y hy => List.mem_cons_of_mem _ (HFR.out.2.2 y hy)
      have HC6 := Lib.hid hc6
      have HO6 := Lib.hid (show Off U w (w3.setCell ⟨c, 2, none⟩ (.slice (some ⟨b, 0, none⟩) (lz.length + 1) cap)) ∧ Fresh w U (b :: U') ∧ ∀ y ∈ U, y ∈ b :: U' from ⟨hoff6, hfr6, hsub6⟩)
      have HR6 := Lib.hid (hc6.cells (x, ⟨qA, x.cells.length, qc⟩) (by simp)).at
      have hmap : (lz ++ [(x, (⟨qA, x.cells.length, qc⟩ : Rw))]).map Prod.fst = ls.map Prod.fst ++ (dn.map Prod.fst ++ [x]) := by rw [HLZ.out]; simp
      have HMAP := Lib.hid hmap
      clear HPU hc6 ho6 hf6 hk6 hoff6 hfr6 hsub6 hmap
      rcases HNX.out with ⟨hlf, hrest⟩ | ⟨hlf, d2', ce, L2, i2, hce, hon2⟩
      · rw [hlf] at d0
        have HRS := Lib.hid hrest
        clear hlf hrest
        go_wp2_with fail
        go_ret2
        exact ⟨rfl, _, _, _, by rw [HMAP.out, HW.out, HRS.out], HC6.out, HO6.out⟩
      · rw [hlf] at d0
        have HCE := Lib.hid hce
        have HN2' := Lib.hid hon2
        clear hlf hce hon2
        obtain ⟨b8, o8, hA8, -, -, -, -, -, q4⟩ := HR6.out x.idx HIX.out
        simp only at hA8
        subst hA8
        have hch : (x.cells[x.idx]'HIX.out).child = ce.child := by
          have h9 := HCE.out
          rw [List.getElem?_eq_getElem HIX.out] at h9
          injection h9 with h9
          rw [h9]
        rw [hch] at q4
        have y1 : (x.idx : Int) < (x.cells.length : Int) := by have := HIX.out; omega
        have y2 : (0 : Int) ≤ (x.idx : Int) := by omega
        have hwl6 : wayLen (w3.setCell ⟨c, 2, none⟩ (.slice (some ⟨b, 0, none⟩) (lz.length + 1) cap)) c = lz.length + 1 := by
          unfold wayLen
          rw [HC6.out.top.cell 2]
          rfl
        have HWL6 := Lib.hid hwl6
        have HLN := Lib.hid hlen
        clear hch hwl6
        go_wp2_with fail
        go_roundw
        case rel =>
          first
            | exact ⟨ce.child, dn ++ [(x, ⟨some ⟨b8, o8, none⟩, x.cells.length, qc⟩)], _, _, d2', L2, i2, rest', rfl, by rw [← List.append_assoc, ← HLZ.out]; exact HC6.out, by rw [HW.out]; simp, HN2'.out, HO6.out⟩
            | ((repeat apply Exists.intro); exact ⟨⟨ce.child, dn ++ [(x, ⟨some ⟨b8, o8, none⟩, x.cells.length, qc⟩)], _, _, d2', L2, i2, rest', rfl, by rw [← List.append_assoc, ← HLZ.out]; exact HC6.out, by rw [HW.out]; simp, HN2'.out, HO6.out⟩, rfl⟩)
        case measure =>
          rw [HWL6.out, HWL.out]
          have := HLN.out
          omega
end Go.Proofs.Ytllafbcnikoohaa

/- Merged by program: CurD CurE. -/
import Derived.Test.YtllafbcnikoohaaC14
/- A cursor: begin, First, Last; step, Next, Prev. -/
namespace Go.Proofs.Ytllafbcnikoohaa
open Go.RowKit
set_option maxRecDepth 100000
set_option linter.unusedVariables false
set_option linter.unusedSimpArgs false
/-- Where a cursor is: on an entry, or on none. -/
def Place (σ : Book) (root : Nat) (L : List En) : Option Nat → List Lv → Prop
  | none, way => way = []
  | some i, way => ∃ d, d ≤ 8 ∧ Tr.On σ d root L i way
theorem Place.len {σ : Book} {root : Nat} {L : List En} {o : Option Nat} {way : List Lv} (h : Place σ root L o way) : way.length ≤ 9 := by
  cases o with
  | none => rw [show way = [] from h]; simp
  | some i => obtain ⟨d, h1, h2⟩ := h; rw [h2.len]; omega
/-- The cursor in memory, on its place. -/
def CurIs (p : Store) (S : List Nat) (σ : Book) (c root : Nat) (R : List Nat) (L : List En) (w : World) (U : List Nat) (o : Option Nat) : Prop :=
  ∃ (v : Value) (ls : List (Lv × Rw)), Cur p S σ c root R w U v ls ∧ Place σ root L o (ls.map Prod.fst)
/-- A call leaves it on a place. -/
def CurPost (p : Store) (S : List Nat) (σ : Book) (c root : Nat) (R : List Nat) (L : List En) (w : World) (U : List Nat) (o : Option Nat) (w' : World) : Prop :=
  ∃ U', CurIs p S σ c root R L w' U' o ∧ Off U w w' ∧ Fresh w U U' ∧ ∀ b ∈ U, b ∈ U'
theorem CurTo.post {p : Store} {S : List Nat} {σ : Book} {c root : Nat} {R : List Nat} {L : List En} {w w' : World} {U : List Nat} {o : Option Nat} {way : List Lv} (h : CurTo p S σ c root R w U way w') (ho : Place σ root L o way) : CurPost p S σ c root R L w U o w' := by
  obtain ⟨U', v, ls, e, h1, h2, h3, h4⟩ := h
  exact ⟨U', ⟨v, ls, h1, by rw [e]; exact ho⟩, h2, h3, h4⟩
theorem CurTo.from {p : Store} {S : List Nat} {σ : Book} {c root : Nat} {R : List Nat} {w w1 w' : World} {U : List Nat} {way : List Lv} (ho : Off U w w1) (h : CurTo p S σ c root R w1 U way w') : CurTo p S σ c root R w U way w' := by
  obtain ⟨U', v, ls, e, h1, h2, h3, h4⟩ := h
  exact ⟨U', v, ls, e, h1, ho.trans h2, fun b hb => (h3 b hb).imp id (fun h => Nat.le_trans ho.size h), h4⟩
/-- A tree that a cursor goes through. -/
def Whole (σ : Book) (root : Nat) (L : List En) : Prop := (root = 0 ∧ L = []) ∨ ∃ d P, d ≤ 8 ∧ Tr.Stored σ d root P L
theorem Tr.Root.whole {σ : Book} {root : Nat} {P : List Nat} {L : List En} (h : Tr.Root σ root P L) (hn : P.Nodup) : Whole σ root L := by
  rcases h with ⟨rfl, rfl, rfl⟩ | ⟨d, h⟩
  · exact .inl ⟨rfl, rfl⟩
  · exact .inr ⟨d, P, h.low hn, h⟩
set_option maxHeartbeats 16000000 in
theorem begin_ok {p : Store} (hp : Serves p) {S : List Nat} {σ : Book} {c root : Nat} {R : List Nat} {L : List En} {w : World} {U : List Nat} {v : Value} {ls : List (Lv × Rw)} (h : Cur p S σ c root R w U v ls) (hL : Whole σ root L) {fc : Nat} {caps : Array Value} {X : List Nat} {ch : List Ce → Nat} (hch : ∀ W, Kept X w W → ChOk fc caps X W ch) (hX : ∀ b ∈ X, b < w.heap.size ∧ b ∉ U) (hc : ∀ l, l ≠ [] → ch l < l.length) :
    Calls Try.prog 25 #[.pointer (some ⟨c, 0, none⟩), .func (.func fc) #[] caps] w (fun e w' => (L = [] ∧ e = .returned (.tuple #[.bool false, .int .i64 0]) ∧ CurPost p S σ c root R L w U none w') ∨ (∃ d i way, d ≤ 8 ∧ Tr.Dn σ ch d root L i way ∧ e = .returned (.tuple #[.bool true, .int .i64 0]) ∧ CurTo p S σ c root R w U way w')) := by
  have t1 := h.top.cell 1
  have t2 := h.top.cell 2
  have f2 := h.top.frozen 2
  have lc := h.top.lt
  have ho : Off U w (w.setCell ⟨c, 2, none⟩ (.slice none 0 0)) := (Off.refl _ _).setCell (.inl h.mem) _
  have hc9 : Cur p S σ c root R (w.setCell ⟨c, 2, none⟩ (.slice none 0 0)) U (.slice none 0 0) [] := h.renew hp ho (fun _ h => h) (Fresh.refl _ _) (fun b hb => Nat.lt_of_lt_of_le (h.lt b hb) ho.size) (h.top.put 2 _) (World.ownsRow_nil _ _ _ _) (by intro g hg; cases hg) (by simp)
  have HO := Lib.hid ho
  have HC := Lib.hid hc9
  rcases hL with ⟨rfl, rfl⟩ | ⟨d, P, hd, hst⟩
  · clear h ho hc9 hch hX hc
    go_enter Try.func25, Try.ntmps25
    go_wp2_with fail
    go_ret2
    exact .inl ⟨trivial, rfl, U, ⟨_, [], HC.out, rfl⟩, HO.out, Fresh.refl _ _, fun _ h => h⟩
  · obtain ⟨i, way, hdn⟩ := Tr.dn_ex (ch := ch) hc hst
    have hno : 1 ≤ root := by obtain ⟨_, _, _, g, _⟩ := hst; exact g
    have z1 : ((root : Int) == 0) = false := by rw [beq_eq_false_iff_ne]; omega
    have z2 : (root == 0) = false := by rw [beq_eq_false_iff_ne]; omega
    have hkx : Kept X w (w.setCell ⟨c, 2, none⟩ (.slice none 0 0)) := fun b hb => ⟨Nat.lt_of_lt_of_le (hX b hb).1 ho.size, ho.block b (hX b hb).1 (hX b hb).2⟩
    have HD := Lib.hid (down_ok hp hc9 (hch _ hkx) (fun b hb => ⟨Nat.lt_of_lt_of_le (hX b hb).1 ho.size, (hX b hb).2⟩) hdn (by rw [hdn.1.len]; simp; omega))
    have HDN := Lib.hid hdn
    clear h ho hc9 hch hX hc hst hdn hkx
    go_enter Try.func25, Try.ntmps25
    go_wp2_with fail
    refine HD.out.mono ?_
    rintro e w1 ⟨rfl, hto⟩
    have HT := Lib.hid hto
    clear hto
    go_wp2_with fail
    go_ret2
    exact .inr ⟨d, i, way, hd, HDN.out, rfl, CurTo.from HO.out (by simpa using HT.out)⟩
set_option maxHeartbeats 8000000 in
theorem first_ok {p : Store} (hp : Serves p) {S : List Nat} {σ : Book} {c root : Nat} {R : List Nat} {L : List En} {w : World} {U : List Nat} {o : Option Nat} (h : CurIs p S σ c root R L w U o) (hL : Whole σ root L) :
    Calls Try.prog 18 #[.pointer (some ⟨c, 0, none⟩)] w (fun e w' => e = .returned (.tuple #[.bool (decide (L ≠ [])), .int .i64 0]) ∧ CurPost p S σ c root R L w U (if L = [] then none else some 0) w') := by
  obtain ⟨v, ls, h, -⟩ := h
  have HB := Lib.hid (begin_ok hp h hL (X := []) (fun W _ => head_ok W) (by simp) (fun l hl => List.length_pos_iff.2 hl))
  clear h hL
  go_enter Try.func18, Try.ntmps18
  go_wp2_with fail
  refine HB.out.mono ?_
  rintro e w1 (⟨rfl, rfl, hto⟩ | ⟨d, i, way, hd, hdn, rfl, hto⟩)
  · have HT := Lib.hid hto
    clear hto
    go_wp2_with fail
    go_ret2
    exact ⟨rfl, HT.out⟩
  · have hi := Tr.dn_head hdn
    subst hi
    have hne : L ≠ [] := by have := hdn.1.lt; intro e; rw [e] at this; simp at this
    have HT := Lib.hid (hto.post (o := some 0) ⟨d, hd, hdn.1⟩)
    have HNE := Lib.hid hne
    clear hto hdn hne
    go_wp2_with fail
    go_ret2
    exact ⟨rfl, HT.out⟩
set_option maxHeartbeats 8000000 in
theorem last_ok {p : Store} (hp : Serves p) {S : List Nat} {σ : Book} {c root : Nat} {R : List Nat} {L : List En} {w : World} {U : List Nat} {o : Option Nat} (h : CurIs p S σ c root R L w U o) (hL : Whole σ root L) :
    Calls Try.prog 21 #[.pointer (some ⟨c, 0, none⟩)] w (fun e w' => e = .returned (.tuple #[.bool (decide (L ≠ [])), .int .i64 0]) ∧ CurPost p S σ c root R L w U (if L = [] then none else some (L.length - 1)) w') := by
  obtain ⟨v, ls, h, -⟩ := h
  have HB := Lib.hid (begin_ok hp h hL (X := []) (fun W _ => tail_ok W) (by simp) (fun l hl => by have := List.length_pos_iff.2 hl; show l.length - 1 < l.length; omega))
  clear h hL
  go_enter Try.func21, Try.ntmps21
  go_wp2_with fail
  refine HB.out.mono ?_
  rintro e w1 (⟨rfl, rfl, hto⟩ | ⟨d, i, way, hd, hdn, rfl, hto⟩)
  · have HT := Lib.hid hto
    clear hto
    go_wp2_with fail
    go_ret2
    exact ⟨rfl, HT.out⟩
  · have hi := Tr.dn_tail hdn
    have hne : L ≠ [] := by intro e; rw [e] at hi; simp at hi
    have HT := Lib.hid (hto.post (o := some (L.length - 1)) ⟨d, hd, by rw [← hi]; exact hdn.1⟩)
    have HNE := Lib.hid hne
    clear hto hdn hne hi
    go_wp2_with fail
    go_ret2
    exact ⟨rfl, HT.out⟩
end Go.Proofs.Ytllafbcnikoohaa
/- A cursor: step. -/
namespace Go.Proofs.Ytllafbcnikoohaa
open Go.RowKit
set_option maxRecDepth 100000
set_option linter.unusedVariables false
set_option linter.unusedSimpArgs false
/-- A level that can't go on. -/
def Stuck (by' : Int) (x : Lv) : Prop := (x.idx : Int) + by' < 0 ∨ (x.cells.length : Int) ≤ (x.idx : Int) + by'
/-- What a step comes to. -/
structure StepLaw (σ : Book) (root : Nat) (L : List En) (by' : Int) (way : List Lv) (o : Option Nat) (ch : List Ce → Nat) : Prop where
  dir : by' = 1 ∨ by' = -1
  none : (∀ x ∈ way, Stuck by' x) → o = none
  some : ∀ pre x post m, way = pre ++ x :: post → (∀ y ∈ post, Stuck by' y) → (x.idx : Int) + by' = ((m : Nat) : Int) → m < x.cells.length →
    (x.leaf = true ∧ post = [] ∧ Place σ root L o (pre ++ [⟨x.leaf, x.cells, m⟩])) ∨ (x.leaf = false ∧ ∃ (d' : Nat) (c : Ce) (L' : List En) (i2 : Nat) (way2 : List Lv), x.cells[m]? = Option.some c ∧ Tr.Dn σ ch d' c.child L' i2 way2 ∧ pre.length + 1 + way2.length ≤ 10 ∧ Place σ root L o (pre ++ ⟨x.leaf, x.cells, m⟩ :: way2))
theorem step_forth {σ : Book} {d root : Nat} {L : List En} {i : Nat} {way : List Lv} (hd : d ≤ 8) (h : Tr.On σ d root L i way) : StepLaw σ root L 1 way (if i + 1 < L.length then some (i + 1) else none) (fun _ => 0) where
  dir := .inl rfl
  none := fun ha => by
    have := h.at_end (fun x hx => by rcases ha x hx with h1 | h1 <;> omega)
    rw [if_neg (by omega)]
  some := fun pre x post m hw ha hm hml => by
    subst hw
    have e : m = x.idx + 1 := by omega
    subst e
    have ha2 : ∀ y ∈ post, y.cells.length ≤ y.idx + 1 := fun y hy => by rcases ha y hy with h1 | h1 <;> omega
    rcases Tr.On.forth pre h ha2 hml with ⟨g1, g2⟩ | ⟨g1, d', c, L', P', g2, g3, g4, g5⟩
    · have hp : post = [] := by
        have l1 := h.len
        have l2 := g2.len
        simp at l1 l2
        exact List.eq_nil_of_length_eq_zero (by omega)
      rw [if_pos g2.lt, g1]
      exact .inl ⟨rfl, hp, d, hd, g2⟩
    · obtain ⟨i2, way2, hdn⟩ := Tr.dn_ex (ch := fun _ => 0) (fun l hl => List.length_pos_iff.2 hl) g3
      have e2 := Tr.dn_head hdn
      subst e2
      have hon := g5 way2 hdn.1
      rw [if_pos hon.lt, g1]
      exact .inr ⟨rfl, d', c, L', 0, way2, g2, hdn, by have := hon.len; simp at this; omega, d, hd, hon⟩
theorem step_back {σ : Book} {d root : Nat} {L : List En} {i : Nat} {way : List Lv} (hd : d ≤ 8) (h : Tr.On σ d root L i way) : StepLaw σ root L (-1) way (if i = 0 then none else some (i - 1)) (fun l => l.length - 1) where
  dir := .inr rfl
  none := fun ha => by
    have hx := h.idx
    have := h.at_start (fun x hx' => by have := hx x hx'; rcases ha x hx' with h1 | h1 <;> omega)
    rw [if_pos this]
  some := fun pre x post m hw ha hm hml => by
    subst hw
    have e : m = x.idx - 1 := by omega
    subst e
    have hx := h.idx
    have ha2 : ∀ y ∈ post, y.idx = 0 := fun y hy => by have := hx y (by simp [hy]); rcases ha y hy with h1 | h1 <;> omega
    obtain ⟨gi, g⟩ := Tr.On.back pre h ha2 (by omega)
    rw [if_neg (by omega)]
    rcases g with ⟨g1, g2⟩ | ⟨g1, d', c, L', P', g2, g3, g4, g5⟩
    · have hp : post = [] := by
        have l1 := h.len
        have l2 := g2.len
        simp at l1 l2
        exact List.eq_nil_of_length_eq_zero (by omega)
      rw [g1]
      exact .inl ⟨rfl, hp, d, hd, g2⟩
    · obtain ⟨i2, way2, hdn⟩ := Tr.dn_ex (ch := fun l => l.length - 1) (fun l hl => by have := List.length_pos_iff.2 hl; show l.length - 1 < l.length; omega) g3
      have e2 := Tr.dn_tail hdn
      have hon := g5 way2 i2 e2 hdn.1
      rw [g1]
      exact .inr ⟨rfl, d', c, L', i2, way2, g2, hdn, by have := hon.len; simp at this; omega, d, hd, hon⟩
theorem own_take {w : World} {B g n n' cap s : Nat} {e : TypeId} {xs ys : List Value} (h : w.ownsRow B e s (.slice (some ⟨g, 0, none⟩) n cap) n xs) (hn : n' ≤ n) (hy : ys = xs.take (n' * s)) : w.ownsRow B e s (.slice (some ⟨g, 0, none⟩) n' cap) n' ys := by
  obtain ⟨h1, h2⟩ := h
  rcases h2 with ⟨h0, _⟩ | ⟨g', cap', cur, hv, hg, hh, hnn, hcap, hsz, htake⟩
  · cases h0
  · cases hv
    have hm : n' * s ≤ n * s := Nat.mul_le_mul_right _ hn
    refine ⟨by rw [hy, List.length_take, h1]; omega, .inr ⟨g, cap, cur, rfl, hg, hh, by omega, hcap, hsz, ?_⟩⟩
    rw [hy, ← htake, List.take_take, Nat.min_eq_left hm]
theorem own_cap {w : World} {B n c s : Nat} {A : Option Addr} {e : TypeId} {xs : List Value} (h : w.ownsRow B e s (.slice A n c) n xs) : n ≤ c := by
  rcases h.2 with ⟨h0, h1⟩ | ⟨g', cap', cur, hv, hg, hh, hnn, _⟩
  · omega
  · cases hv; exact hnn
theorem flatL_take (ls : List (Lv × Rw)) (n : Nat) (h : n ≤ ls.length) : (flatL ls).take (n * 3) = flatL (ls.take n) := by
  have e : ls = ls.take n ++ ls.drop n := (List.take_append_drop n ls).symm
  have hl : (flatL (ls.take n)).length = n * 3 := by rw [flatL_len, List.length_take]; omega
  conv => lhs; rw [e, flatL_app]
  rw [← hl, List.take_left]
theorem flatL_set (ls : List (Lv × Rw)) (j : Nat) (h : j < ls.length) (m : Nat) : (flatL ls).set (j * 3 + 2) (.int .i64 m) = flatL (ls.set j (⟨ls[j].1.leaf, ls[j].1.cells, m⟩, ls[j].2)) := by
  apply List.ext_getElem?
  intro k
  by_cases hk : k < ls.length * 3
  · have hk3 : k = (k / 3) * 3 + k % 3 := by omega
    have hd : k / 3 < ls.length := by omega
    have hm : k % 3 < 3 := by omega
    have e1 := flatL_get ls (k / 3) hd (k % 3) hm
    have e2 := flatL_get (ls.set j (⟨ls[j].1.leaf, ls[j].1.cells, m⟩, ls[j].2)) (k / 3) (by rw [List.length_set]; exact hd) (k % 3) hm
    rw [← hk3] at e1 e2
    rw [e2, List.getElem?_set]
    by_cases hj : j * 3 + 2 = k
    · have h1 : k / 3 = j := by omega
      have h2 : k % 3 = 2 := by omega
      rw [if_pos hj, if_pos (by rw [flatL_len]; omega)]
      simp [h1, h2, lvV]
    · rw [if_neg hj, e1]
      by_cases hjk : j = k / 3
      · have h2 : k % 3 = 0 ∨ k % 3 = 1 := by omega
        subst hjk
        rcases h2 with h2 | h2 <;> simp [h2, lvV]
      · rw [List.getElem_set_ne hjk]
  · rw [List.getElem?_eq_none (by rw [List.length_set, flatL_len]; omega), List.getElem?_eq_none (by rw [flatL_len, List.length_set]; omega)]
/-- A level of the row, its cells. -/
theorem Cur.level {p : Store} {S : List Nat} {σ : Book} {c root : Nat} {R : List Nat} {w : World} {U : List Nat} {g n cap : Nat} {ls : List (Lv × Rw)} (h : Cur p S σ c root R w U (.slice (some ⟨g, 0, none⟩) n cap) ls) (j : Nat) (hj : j < ls.length) :
    w.cell? ⟨g, j * 3, none⟩ = some (.bool ls[j].1.leaf) ∧ w.cell? ⟨g, j * 3 + 1, none⟩ = some (.slice ls[j].2.A ls[j].2.n ls[j].2.c) ∧ w.cell? ⟨g, j * 3 + 2, none⟩ = some (.int .i64 ls[j].1.idx) ∧ w.frozen? ⟨g, j * 3 + 2, none⟩ = false ∧ n = ls.length ∧ g < w.heap.size ∧ g ≠ c := by
  obtain ⟨_, _, hv, -, -⟩ := own_form h.row
  injection hv with e1 e2 e3
  subst e2
  have hc := World.ownsRow.cells h.row (g := g) rfl
  have ha : ∀ k, ((⟨g, 0, none⟩ : Addr).add k) = ⟨g, k, none⟩ := fun k => by rw [addr_add, Nat.zero_add]
  have hg : ∀ k u, (flatL ls)[k]? = some u → w.cell? ⟨g, k, none⟩ = some u := fun k u hu => by rw [← ha k]; exact hc k u hu
  exact ⟨hg _ _ (flatL_get ls j hj 0 (by omega)), hg _ _ (flatL_get ls j hj 1 (by omega)), hg _ _ (flatL_get ls j hj 2 (by omega)), World.ownsRow.frozenAt h.row _, rfl, h.lt g (h.blk g rfl), fun e => own_ne h.row h.top (by decide) (by rw [e]; rfl)⟩
set_option maxHeartbeats 16000000 in
theorem step_ok {p : Store} (hp : Serves p) {S : List Nat} {σ : Book} {c root : Nat} {R : List Nat} {L : List En} {w : World} {U : List Nat} {v : Value} {ls : List (Lv × Rw)} {by' : Int} {o : Option Nat} {fc : Nat} {ch : List Ce → Nat} (h : Cur p S σ c root R w U v ls) (hs : StepLaw σ root L by' (ls.map Prod.fst) o ch) (hix : ∀ x ∈ ls.map Prod.fst, x.idx < x.cells.length) (hl : ls.length ≤ 9) (hch : ∀ W, ChOk fc #[] [] W ch) :
    Calls Try.prog 28 #[.pointer (some ⟨c, 0, none⟩), .int .i64 by', .func (.func fc) #[] #[]] w (fun e w' => e = .returned (.tuple #[.bool o.isSome, .int .i64 0]) ∧ CurPost p S σ c root R L w U o w') := by
  obtain ⟨A, cc, rfl, hA, hcc⟩ := own_form h.row
  have t2 := h.top.cell 2
  have f2 := h.top.frozen 2
  have lc := h.top.lt
  have hdir := hs.dir
  have HC := Lib.hid h
  have HS := Lib.hid hs
  have HIX := Lib.hid hix
  have HCH := Lib.hid hch
  have HA := Lib.hid hA
  have HOF := Lib.hid (coff_any hp h 0)
  clear h hs hix hch hA
  go_enter Try.func28, Try.ntmps28
  go_wp2_with fail
  go_loopw [8] (fun n wr => wr = w ∧ ∃ (nn : Int) (j : Nat), n = .int .i64 nn ∧ nn = (j : Int) - 1 ∧ j ≤ ls.length ∧ ∀ k (hk : k < ls.length), j ≤ k → Stuck by' ls[k].1) (fun n _ => (intOf n + 1).toNat)
  case atStart => exact ⟨rfl, _, ls.length, rfl, rfl, Nat.le_refl _, fun k hk h => by omega⟩
  case round =>
    obtain ⟨rfl, nn, j, rfl, hnn, hj, hst⟩ := hrel
    cases j with
    | zero =>
      obtain rfl : nn = -1 := by omega
      have ho : o = none := HS.out.none fun x hx => by
        obtain ⟨y, hy, rfl⟩ := List.mem_map.1 hx
        obtain ⟨k, hk, rfl⟩ := List.mem_iff_getElem.1 hy
        exact hst k hk (Nat.zero_le _)
      subst ho
      clear hst hnn hj hdir
      have y0 : decide ((0 : Int) ≤ -1) = false := rfl
      go_wp2_with fail
      refine HOF.out.mono ?_
      rintro e w1 ⟨rfl, ho1, hc1⟩
      have HE := Lib.hid (show CurPost p S σ c root R L wr U none w1 from ⟨U, ⟨_, [], hc1, rfl⟩, ho1, Fresh.refl _ _, fun _ h => h⟩)
      clear ho1 hc1
      go_wp2_with fail
      go_ret2
      exact ⟨rfl, HE.out⟩
    | succ m =>
      obtain rfl : nn = (m : Int) := by omega
      have hm : m < ls.length := by omega
      obtain ⟨g, rfl⟩ := HA.out (by omega)
      obtain ⟨c0, c1, c3, f3, -, lg, hgc⟩ := HC.out.level m hm
      have hrow := HC.out.cells ls[m] (List.getElem_mem hm)
      have hxi := HIX.out ls[m].1 (List.mem_map.2 ⟨_, List.getElem_mem hm, rfl⟩)
      have hsplit : ls.map Prod.fst = (ls.take m).map Prod.fst ++ ls[m].1 :: (ls.drop (m + 1)).map Prod.fst := by
        have e : ls = ls.take m ++ (ls[m] :: ls.drop (m + 1)) := by rw [← List.drop_eq_getElem_cons hm, List.take_append_drop]
        conv => lhs; rw [e]
        rw [List.map_append, List.map_cons]
      have hpost : ∀ y ∈ (ls.drop (m + 1)).map Prod.fst, Stuck by' y := fun y hy => by
        obtain ⟨z, hz, rfl⟩ := List.mem_map.1 hy
        obtain ⟨k, hk, rfl⟩ := List.mem_iff_getElem.1 hz
        rw [List.length_drop] at hk
        rw [List.getElem_drop]
        exact hst (m + 1 + k) (by omega) (by omega)
      obtain ⟨⟨x, q⟩, hxq⟩ : ∃ z, z = ls[m] := ⟨_, rfl⟩
      rw [← hxq] at c0 c1 c3 hrow hxi hsplit
      simp only at c0 c1 c3 hrow hxi hsplit
      have hqn : q.n = x.cells.length := hrow.1
      have hqc : q.n ≤ q.c := hrow.2.1
      have hqm : q.c ≤ maxLen := hrow.2.2.1
      have hsome := HS.out.some ((ls.take m).map Prod.fst) x ((ls.drop (m + 1)).map Prod.fst)
      obtain ⟨qA, qn, qc⟩ := q
      simp only at hqn hqc hqm c1 hrow
      subst hqn
      unfold maxLen at hqm
      obtain ⟨t, ht⟩ : ∃ t, t = (x.idx : Int) + by' := ⟨_, rfl⟩
      have hw : IntKind.i64.wrap ((x.idx : Int) + by') = t := by rw [ht]; exact IntWalk.i64_in _ (by omega)
      have HST := Lib.hid hst
      have HXQ := Lib.hid hxq
      have HSP := Lib.hid hsplit
      have HPO := Lib.hid hpost
      have HSM := Lib.hid hsome
      have HROW := Lib.hid hrow
      have HT := Lib.hid ht
      have y0 : decide ((0 : Int) ≤ (m : Int)) = true := decide_eq_true (by omega)
      have y1 : (m : Int) < (ls.length : Int) := by omega
      have y2 : (0 : Int) ≤ (m : Int) := by omega
      clear hnn
      clear hst hxq hsplit hpost hsome hrow ht hdir
      by_cases hneg : t < 0
      · have z1 : decide (t < 0) = true := decide_eq_true hneg
        go_wp2_with fail
        go_roundw
        case rel =>
          exact ⟨trivial, _, m, rfl, by go_num, by omega, fun k hk h => by
            by_cases e : k = m
            · subst e; rw [← HXQ.out]; exact .inl (by rw [← HT.out]; exact hneg)
            · exact HST.out k hk (by omega)⟩
        case measure => simp [intOf]
      have z1 : decide (t < 0) = false := decide_eq_false hneg
      by_cases hge : (x.cells.length : Int) ≤ t
      · have z2 : decide ((x.cells.length : Int) ≤ t) = true := decide_eq_true hge
        go_wp2_with fail
        go_roundw
        case rel =>
          exact ⟨trivial, _, m, rfl, by go_num, by omega, fun k hk h => by
            by_cases e : k = m
            · subst e; rw [← HXQ.out]; exact .inr (by rw [← HT.out]; exact hge)
            · exact HST.out k hk (by omega)⟩
        case measure => simp [intOf]
      have z2 : decide ((x.cells.length : Int) ≤ t) = false := decide_eq_false hge
      obtain ⟨tn, rfl⟩ : ∃ tn : Nat, t = (tn : Int) := ⟨t.toNat, by omega⟩
      have htn : tn < x.cells.length := by omega
      have hdr := HSM.out tn HSP.out HPO.out HT.out.symm htn
      have ho7 : Off U wr (wr.setCell ⟨g, m * 3 + 2, none⟩ (.int .i64 tn)) := (Off.refl _ _).setCell (.inl (HC.out.blk g rfl)) _
      have hrow7 : (wr.setCell ⟨g, m * 3 + 2, none⟩ (.int .i64 tn)).ownsRow 0 66 3 (.slice (some ⟨g, 0, none⟩) ls.length cc) ls.length (flatL (ls.set m (⟨x.leaf, x.cells, tn⟩, ⟨qA, x.cells.length, qc⟩))) := by
        have h9 := (World.ownsRow.stored HC.out.row (m * 3 + 2) (.int .i64 tn)).1
        rw [flatL_set ls m hm tn, ← HXQ.out] at h9
        exact h9
      have hsetx : ∀ y ∈ ls.set m ((⟨x.leaf, x.cells, tn⟩ : Lv), (⟨qA, x.cells.length, qc⟩ : Rw)), ∃ z ∈ ls, z.2 = y.2 ∧ z.1.cells = y.1.cells := fun y hy => by
        rcases List.mem_or_eq_of_mem_set hy with hy | rfl
        · exact ⟨y, hy, rfl, rfl⟩
        · exact ⟨ls[m], List.getElem_mem hm, by rw [← HXQ.out], by rw [← HXQ.out]⟩
      have htake : (ls.set m ((⟨x.leaf, x.cells, tn⟩ : Lv), (⟨qA, x.cells.length, qc⟩ : Rw))).take (m + 1) = ls.take m ++ [((⟨x.leaf, x.cells, tn⟩ : Lv), (⟨qA, x.cells.length, qc⟩ : Rw))] := by
        rw [List.take_succ_eq_append_getElem (by rw [List.length_set]; exact hm), List.take_set_of_le (Nat.le_refl m), List.getElem_set_self]
      have hget : (ls.set m ((⟨x.leaf, x.cells, tn⟩ : Lv), (⟨qA, x.cells.length, qc⟩ : Rw)))[m]? = some ((⟨x.leaf, x.cells, tn⟩ : Lv), (⟨qA, x.cells.length, qc⟩ : Rw)) := by rw [List.getElem?_set_self hm]
      have hc7 : Cur p S σ c root R (wr.setCell ⟨g, m * 3 + 2, none⟩ (.int .i64 tn)) U (.slice (some ⟨g, 0, none⟩) ls.length cc) (ls.set m (⟨x.leaf, x.cells, tn⟩, ⟨qA, x.cells.length, qc⟩)) :=
        HC.out.renew hp ho7 (fun _ h => h) (Fresh.refl _ _) (fun b hb => Nat.lt_of_lt_of_le (HC.out.lt b hb) ho7.size) (HC.out.top.far (Ne.symm hgc) _) (by rw [List.length_set]; exact hrow7) HC.out.blk (fun y hy => .inl (hsetx y hy))
      have hsm : o.isSome = true := by
        cases o with
        | some i => rfl
        | none =>
          rcases hdr with ⟨-, -, hpl⟩ | ⟨-, d', ce, L', i2, way2, -, -, -, hpl⟩
          · have h9 : (ls.take m).map Prod.fst ++ [(⟨x.leaf, x.cells, tn⟩ : Lv)] = [] := hpl
            simp at h9
          · have h9 : (ls.take m).map Prod.fst ++ (⟨x.leaf, x.cells, tn⟩ : Lv) :: way2 = [] := hpl
            simp at h9
      have HC7 := Lib.hid hc7
      have HO7 := Lib.hid ho7
      rcases hdr with ⟨hlf, hpe, hpl⟩ | ⟨hlf, d', ce, L', i2, way2, hce, hdn, hwl, hpl⟩
      · rw [hlf] at c0
        have hend : (ls.set m ((⟨x.leaf, x.cells, tn⟩ : Lv), (⟨qA, x.cells.length, qc⟩ : Rw))).map Prod.fst = (ls.take m).map Prod.fst ++ [⟨x.leaf, x.cells, tn⟩] := by
          have hle : ls.length ≤ m + 1 := by
            have := congrArg List.length hpe
            simp at this
            omega
          rw [← List.take_of_length_le (l := ls.set m ((⟨x.leaf, x.cells, tn⟩ : Lv), (⟨qA, x.cells.length, qc⟩ : Rw))) (i := m + 1) (by rw [List.length_set]; exact hle), htake, List.map_append]
          rfl
        have HE := Lib.hid (show CurPost p S σ c root R L wr U o (wr.setCell ⟨g, m * 3 + 2, none⟩ (.int .i64 tn)) from ⟨U, ⟨_, _, hc7, by rw [hend]; exact hpl⟩, ho7, Fresh.refl _ _, fun _ h => h⟩)
        have HSMM := Lib.hid hsm
        clear hlf hpe hpl hend hc7 ho7 hrow7 hsetx htake hget hsm
        go_wp2_with fail
        go_ret2
        exact ⟨by rw [HSMM.out]; rfl, HE.out⟩
      · rw [hlf] at c0
        have ho8 : Off U wr ((wr.setCell ⟨g, m * 3 + 2, none⟩ (.int .i64 tn)).setCell ⟨c, 2, none⟩ (.slice (some ⟨g, 0, none⟩) (m + 1) cc)) := ho7.setCell (.inl HC.out.mem) _
        have hc8 : Cur p S σ c root R ((wr.setCell ⟨g, m * 3 + 2, none⟩ (.int .i64 tn)).setCell ⟨c, 2, none⟩ (.slice (some ⟨g, 0, none⟩) (m + 1) cc)) U (.slice (some ⟨g, 0, none⟩) (m + 1) cc) (ls.take m ++ [((⟨x.leaf, x.cells, tn⟩ : Lv), (⟨qA, x.cells.length, qc⟩ : Rw))]) := by
          have ho78 : Off U (wr.setCell ⟨g, m * 3 + 2, none⟩ (.int .i64 tn)) ((wr.setCell ⟨g, m * 3 + 2, none⟩ (.int .i64 tn)).setCell ⟨c, 2, none⟩ (.slice (some ⟨g, 0, none⟩) (m + 1) cc)) := (Off.refl _ _).setCell (.inl hc7.mem) _
          have hll : (ls.take m ++ [((⟨x.leaf, x.cells, tn⟩ : Lv), (⟨qA, x.cells.length, qc⟩ : Rw))]).length = m + 1 := by rw [List.length_append, List.length_take]; simp; omega
          refine hc7.renew hp ho78 (fun _ h => h) (Fresh.refl _ _) (fun b hb => Nat.lt_of_lt_of_le (hc7.lt b hb) ho78.size) (hc7.top.put 2 _) ?_ (fun g' hg' => HC.out.blk g' hg') (fun y hy => .inl ⟨y, ?_, rfl, rfl⟩)
          · rw [hll]
            refine own_take (((Off.refl [c] _).setCell (p := ⟨c, 2, none⟩) (.inl (by simp)) _).own hrow7 (fun g' hg' hm' => ?_)) (by omega) ?_
            · have e : g = g' := by simpa [Value.ownBlock] using hg'
              rw [List.mem_singleton] at hm'
              omega
            · rw [flatL_take _ _ (by rw [List.length_set]; omega), htake]
          · rw [← htake] at hy
            exact List.mem_of_mem_take hy
        have hlp : (ls.take m ++ [((⟨x.leaf, x.cells, tn⟩ : Lv), (⟨qA, x.cells.length, qc⟩ : Rw))]).map Prod.fst = (ls.take m).map Prod.fst ++ [⟨x.leaf, x.cells, tn⟩] := by rw [List.map_append]; rfl
        have hlen8 : (ls.take m ++ [((⟨x.leaf, x.cells, tn⟩ : Lv), (⟨qA, x.cells.length, qc⟩ : Rw))]).length = ((ls.take m).map Prod.fst).length + 1 := by simp
        have HDN := Lib.hid (down_ok hp hc8 (HCH.out _) (by simp) hdn (by rw [hlen8]; exact hwl))
        obtain ⟨b8, o8, hA8, -, -, -, -, -, q4⟩ := (hc8.cells _ (List.mem_append_right _ (List.mem_singleton.2 rfl))).at tn htn
        simp only at hA8 q4
        subst hA8
        have hchd : (x.cells[tn]'htn).child = ce.child := by
          rw [List.getElem?_eq_getElem htn] at hce
          injection hce with hce
          rw [hce]
        rw [hchd] at q4
        have y5 : (tn : Int) < (x.cells.length : Int) := by omega
        have y6 : (0 : Int) ≤ (tn : Int) := by omega
        have y7 : (m : Int) + 1 ≤ (cc : Int) := by
          have := own_cap HC.out.row
          omega
        have HPL := Lib.hid hpl
        have HLP := Lib.hid hlp
        have HO8 := Lib.hid ho8
        have HSMM := Lib.hid hsm
        clear hlf hce hdn hwl hpl hc7 hc8 ho8 ho7 hrow7 hsetx htake hget hsm hlp hlen8 hchd
        go_wp2_with fail
        refine HDN.out.mono ?_
        rintro e w1 ⟨rfl, hto⟩
        have HE := Lib.hid (show CurPost p S σ c root R L wr U o w1 from (CurTo.from HO8.out hto).post (by rw [HLP.out, List.append_assoc]; exact HPL.out))
        clear hto
        go_wp2_with fail
        go_ret2
        exact ⟨by rw [HSMM.out]; rfl, HE.out⟩
end Go.Proofs.Ytllafbcnikoohaa

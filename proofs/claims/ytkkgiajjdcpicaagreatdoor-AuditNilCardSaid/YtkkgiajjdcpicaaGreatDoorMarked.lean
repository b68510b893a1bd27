/- Rows of one-cell elements that a call owns, of which the place behind the last cell may be marked (as a conversion from a string leaves them), and append onto them. Over any program. After the shelf's text on rows with a frozen head. -/
import Derived.Test.YtkkgiajjdcpicaaGreatDoorAppend
import Derived.Lib.FrozenHead
import Derived.Laws.IdiomStrings
namespace Go.Proofs.YtkkgiajjdcpicaaGreatDoor
open Go.RowKit

/-- v owns the cells xs; its row's frozen stretch, if any, lies behind its cells. -/
def OwnM (w : World) (base : Nat) (e : TypeId) (v : Value) (n : Nat) (xs : List Value) : Prop :=
  xs.length = n ∧ ((v = .slice none 0 0 ∧ n = 0) ∨
   ∃ g cap cur fz, v = .slice (some ⟨g, 0, none⟩) n cap ∧ base ≤ g ∧ w.heap[g]? = some (.cells cur e fz) ∧ (fz.2 = 0 ∨ cur.size ≤ fz.1) ∧ n ≤ cap ∧ cap ≤ maxLen ∧ cur.size = cap ∧ cur.toList.take n = xs)

section
variable {w : World} {base : Nat} {e : TypeId} {v : Value} {n : Nat} {xs : List Value}

theorem OwnM.of_own (h : w.ownsRow base e 1 v n xs) : OwnM w base e v n xs := by
  obtain ⟨h1, h2⟩ := h
  refine ⟨by omega, ?_⟩
  rcases h2 with h2 | ⟨g, cap, cur, hv, hb, hg, hc, hm, hs, ht⟩
  · exact .inl h2
  · exact .inr ⟨g, cap, cur, (0, 0), hv, hb, hg, .inl rfl, hc, hm, by omega, by rw [Nat.mul_one] at ht; exact ht⟩

theorem OwnM.lt (h : OwnM w base e v n xs) : ∀ k, v.ownBlock = some k → base ≤ k ∧ k < w.heap.size := by
  intro k hk
  rcases h.2 with ⟨rfl, _⟩ | ⟨g, cap, cur, fz, rfl, hb, hg, _⟩
  · simp [Value.ownBlock] at hk
  · simp [Value.ownBlock] at hk
    subst hk
    exact ⟨hb, (Array.getElem?_eq_some_iff.1 hg).1⟩

theorem OwnM.keep {w' : World} (h : OwnM w base e v n xs) (hk : ∀ k, v.ownBlock = some k → w'.heap[k]? = w.heap[k]?) : OwnM w' base e v n xs := by
  refine ⟨h.1, ?_⟩
  rcases h.2 with hn | ⟨g, cap, cur, fz, rfl, hb, hgg, rest⟩
  · exact .inl hn
  · exact .inr ⟨g, cap, cur, fz, rfl, hb, (hk g rfl).trans hgg, rest⟩

theorem OwnM.below {w' : World} (h : OwnM w base e v n xs) (hb : Below w.heap.size w w') : OwnM w' base e v n xs :=
  h.keep fun k hk => hb.block k (h.lt k hk).2

theorem OwnM.mono {base' : Nat} (h : OwnM w base e v n xs) (hb : base' ≤ base) : OwnM w base' e v n xs := by
  obtain ⟨h1, h2⟩ := h
  refine ⟨h1, ?_⟩
  rcases h2 with h2 | ⟨g, cap, cur, fz, rfl, hg, r⟩
  · exact .inl h2
  · exact .inr ⟨g, cap, cur, fz, rfl, by omega, r⟩

/-- As a slice's parts. -/
theorem OwnM.slice (h : OwnM w base e v n xs) : ∃ (A : Option Addr) (c : Nat), v = .slice A n c ∧ n ≤ c ∧ c ≤ maxLen ∧ n = xs.length ∧ Sl w A xs ∧ ∀ a, A = some a → base ≤ a.block ∧ v.ownBlock = some a.block := by
  obtain ⟨h1, h2⟩ := h
  rcases h2 with ⟨rfl, rfl⟩ | ⟨g, cap, cur, fz, rfl, hb, hh, hf, hc, hm, hs, ht⟩
  · obtain rfl : xs = [] := List.eq_nil_of_length_eq_zero h1
    exact ⟨none, 0, rfl, Nat.le_refl _, Nat.zero_le _, rfl, Sl.nil _ _, fun a ha => by cases ha⟩
  · refine ⟨some ⟨g, 0, none⟩, cap, rfl, hc, hm, h1.symm, ?_, fun a ha => by cases ha; exact ⟨hb, rfl⟩⟩
    intro j u hu
    refine ⟨g, 0, rfl, lt_of_block hh, ?_⟩
    rw [Nat.zero_add, cell_of_row w g j cur e fz hh]
    have hj : j < xs.length := (List.getElem?_eq_some_iff.1 hu).1
    rw [← ht, List.getElem?_take_of_lt (by omega)] at hu
    rw [← Array.getElem?_toList]
    exact hu
end

theorem run_storeCells_atM (P : Program) (g o : Nat) (t : TypeId) (fz : Nat × Nat) : ∀ (vs : List Value) (i : Nat) (cur : Array Value) (w : World), w.heap[g]? = some (.cells cur t fz) → (fz.2 = 0 ∨ cur.size ≤ fz.1) → o + i + vs.length ≤ cur.size → (∀ v ∈ vs, v.oneCell' = true) →
    (storeCells ⟨g, o, none⟩ vs i).run P w = .ok () (w.setRow g (cur.toList.take (o + i) ++ vs ++ cur.toList.drop (o + i + vs.length)).toArray)
  | [], i, cur, w, hg, _, _, _ => by
    simp only [storeCells, List.append_nil, List.length_nil, Nat.add_zero, List.take_append_drop, Array.toArray_toList]
    rw [setRow_self w g cur t fz hg]
    rfl
  | v :: rest, i, cur, w, hg, hfz, hl, h1 => by
    have hi : o + i < cur.size := by simp at hl; omega
    have hadd : (⟨g, o, none⟩ : Addr).add i = ⟨g, o + i, none⟩ := by unfold Addr.add; split <;> simp_all
    have hcell : w.cell? ⟨g, o + i, none⟩ = some cur[o + i] := by simp [World.cell?, hg, hi]
    have hfro : w.frozen? ⟨g, o + i, none⟩ = false := by
      obtain ⟨lo, hi'⟩ := fz
      simp only [World.frozen?, hg, Bool.and_eq_false_iff, decide_eq_false_iff_not]
      simp only at hfz
      omega
    have hst : (store ((⟨g, o, none⟩ : Addr).add i) v).run P w = .ok () (w.setRow g (cur.setIfInBounds (o + i) v)) := by
      rw [hadd, run_store P w _ v _ (h1 v (by simp)), hcell]
      simp [hfro, setCell_eq_setRow w g (o + i) cur t fz v hg]
    have ih := run_storeCells_atM P g o t fz rest (i + 1) (cur.setIfInBounds (o + i) v) (w.setRow g (cur.setIfInBounds (o + i) v)) (setRow_heap w g cur _ t _ hg) (by simpa using hfz) (by simp at hl ⊢; omega) (fun x hx => h1 x (by simp [hx]))
    simp only [storeCells, Sem.run_bind, hst, Result.andThen_ok, ih, setRow_setRow]
    congr 3
    have e := list_seg_step cur.toList (o + i) v rest (by simp at hl ⊢; omega)
    simpa [Array.toList_setIfInBounds, Nat.add_assoc] using e

section
variable {P : Program} (w : World)

theorem run_append_M (base : Nat) (t ty e : TypeId) (i : TypeInfo) (z : Value) (bytes : Nat) (ht : P.underlying t = some (.slice e)) (hi : P.info? e = some i) (hz : i.zero = some z)
    (hsize : i.size = 1) (hby : i.bytes = bytes) (hzs : z.cells.size = 1)
    (v : Value) (n : Nat) (xs : List Value) (hown : OwnM w base e v n xs)
    (A : Option Addr) (m c : Nat) (news : List Value) (hm : news.length = m) (hr : Sl w A news) (h1 : ∀ u ∈ news, u.oneCell' = true)
    (h63 : n + m ≤ maxLen) (hbytes : (n + m) * bytes ≤ 140737488355328) (hbase : base ≤ w.heap.size) :
    ∃ v' w', (Builtin.append_ #[t, t] ty #[v, .slice A m c]).run P w = .ok v' w' ∧ OwnM w' base e v' (n + m) (xs ++ news) ∧ w.grownBy w' v.ownBlock := by
  rcases hown.2 with ⟨rfl, rfl⟩ | ⟨g, cap, cur, fz, rfl, hbg, hg, hfz, hnc, hcm, hcs, htake⟩
  · obtain rfl : xs = [] := List.eq_nil_of_length_eq_zero hown.1
    obtain ⟨v', w', r1, r2, r3, -⟩ := run_append_sl (P := P) w base t ty e i z bytes ht hi hz hsize hby hzs (.slice none 0 0) 0 [] (World.ownsRow_nil _ _ _ _) A m c news hm hr h1 h63 hbytes hbase
    exact ⟨v', w', r1, OwnM.of_own r2, r3⟩
  · have hlen : (xs ++ news).length = n + m := by rw [List.length_append, hown.1, hm]
    have hsl := hown.slice
    rcases A with _ | ad
    · have hn : news = [] := by
        cases news with
        | nil => rfl
        | cons u r => obtain ⟨b, o, h, _⟩ := hr 0 u rfl; cases h
      subst hn
      obtain rfl : m = 0 := by simpa using hm.symm
      refine ⟨_, w, ?_, by simpa using hown, World.grownBy.refl w _⟩
      simp [Builtin.append_, run_underlying ht, sizeOf, typeInfo, hi, Builtin.lenOf, Builtin.firstCells, hnc, storeCells]
    · have hcells : ∀ j u, news[j]? = some u → w.cell? (ad.add j) = some u := by
        intro j u hu
        obtain ⟨b, o, h, _, hc⟩ := hr j u hu
        injection h with h
        subst h
        have e2 : (⟨b, o, none⟩ : Addr).add j = ⟨b, o + j, none⟩ := by
          unfold Addr.add
          by_cases h0 : j = 0 <;> simp [h0]
        rw [e2]
        exact hc
      by_cases hroom : n + m ≤ cap
      · have hf := run_firstCells_some (P := P) w i.size m ad m c news (by rw [hsize]; omega) hcells
        have hst := run_storeCells_atM P g n e fz news 0 cur w hg hfz (by omega) h1
        simp only [Nat.add_zero] at hst
        have hrun : (Builtin.append_ #[t, t] ty #[.slice (some ⟨g, 0, none⟩) n cap, .slice (some ad) m c]).run P w = .ok (.slice (some ⟨g, 0, none⟩) (n + m) cap) (w.setRow g (cur.toList.take n ++ news ++ cur.toList.drop (n + news.length)).toArray) := by
          rw [hsize] at hf
          simp [Builtin.append_, run_underlying ht, sizeOf, typeInfo, hi, hsize, Builtin.lenOf, hroom, hf, Addr.add_lit, hst]
        have hsz2 : (cur.toList.take n ++ news ++ cur.toList.drop (n + news.length)).toArray.size = cur.size := by
          simp only [List.size_toArray, List.length_append, List.length_take, List.length_drop, Array.length_toList]
          omega
        refine ⟨_, _, hrun, ⟨hlen, .inr ⟨g, cap, _, fz, rfl, hbg, setRow_heap w g cur _ e _ hg, ?_, hroom, hcm, ?_, ?_⟩⟩, ⟨rfl, rfl, rfl, by simp, fun k _ hk => setRow_other w g k _ (fun e => hk (by simp [Value.ownBlock, e]))⟩⟩
        · rw [hsz2]; exact hfz
        · rw [hsz2]; exact hcs
        · show (cur.toList.take n ++ news ++ cur.toList.drop (n + news.length)).take (n + m) = _
          rw [htake, ← hlen]
          exact List.take_left
      · have holds : ∀ j u, xs[j]? = some u → w.cell? ((⟨g, 0, none⟩ : Addr).add j) = some u := by
          obtain ⟨A2, c2, hA, _, _, _, hS, _⟩ := hsl
          injection hA with hA _ _
          subst hA
          intro j u hu
          obtain ⟨b, o, h, _, hc⟩ := hS j u hu
          injection h with h
          injection h with hb ho
          subst hb
          subst ho
          have e2 : (⟨g, 0, none⟩ : Addr).add j = ⟨g, 0 + j, none⟩ := by
            unfold Addr.add
            by_cases h0 : j = 0 <;> simp [h0]
          rw [e2]
          exact hc
        obtain ⟨v', w', hrun, r1, r2⟩ := run_append_arg_grows (P := P) w t ty e i z 1 bytes ht hi hz hsize hby hzs (by decide) ⟨g, 0, none⟩ n cap xs (by rw [hown.1]; omega) holds ad m c news (by omega) hcells (by omega) h63 hbytes
        exact ⟨v', w', hrun, (OwnM.of_own r1).mono hbase, ⟨r2.os, r2.tape, r2.output, r2.size, fun k hk _ => r2.block k hk (by simp)⟩⟩

theorem wpList_append_M {ops : Array Oper} {rest : List Oper} {o : Oper} {a : Act} {Q : Exit → Act → World → Prop} (hgd : o.guard = none) (s x : Operand) (t : TypeId)
    (ho : o.op = .call { callee := .builtin .append, args := #[s, x], argTypes := #[t, t] })
    (base : Nat) (e : TypeId) (i : TypeInfo) (z : Value) (bytes : Nat) (ht : P.underlying t = some (.slice e)) (hi : P.info? e = some i) (hz : i.zero = some z)
    (hsize : i.size = 1) (hby : i.bytes = bytes) (hzs : z.cells.size = 1)
    (v : Value) (n : Nat) (xs : List Value) (hs : a.eval s = v) (hown : OwnM w base e v n xs)
    (A : Option Addr) (m c : Nat) (news : List Value) (hm : news.length = m) (hx : a.eval x = .slice A m c) (hr : Sl w A news) (h1 : ∀ u ∈ news, u.oneCell' = true)
    (h63 : n + m ≤ maxLen) (hbytes : (n + m) * bytes ≤ 140737488355328) (hbase : base ≤ w.heap.size)
    (h : ∀ v' w', OwnM w' base e v' (n + m) (xs ++ news) → w.grownBy w' v.ownBlock → wpList P ops Q rest (a.put o.dst v') w') : wpList P ops Q (o :: rest) a w := by
  refine wpList_plain hgd fun K hK => ?_
  obtain ⟨v', w', hrun, h2, h3⟩ := run_append_M (P := P) w base t o.type e i z bytes ht hi hz hsize hby hzs v n xs hown A m c news hm hr h1 h63 hbytes hbase
  unfold Oper.wp execOp
  simp only [ho, resolve, invoke, builtin, Sem.run_bind, Sem.run_pure, Result.andThen_ok, List.map_toArray, List.map_cons, List.map_nil, hs, hx, hrun]
  exact hK _ _ (h v' w' h2 h3)

/-- The row that a conversion from a string lays. -/
theorem OwnM.bytes (e : TypeId) (s : ByteArray) (hs : s.size ≤ maxLen) (fz : Nat) (hfz : (bytesRow s (grownCap w s.size 0 e)).size ≤ fz) :
    OwnM (w.drew.alloc (.cells (bytesRow s (grownCap w s.size 0 e)) e (fz, fz + 1))) w.heap.size e (.slice (some ⟨w.heap.size, 0, none⟩) s.size (grownCap w s.size 0 e)) s.size (s.data.toList.map fun c => .int .u8 c.toNat) := by
  have hge := grownCap_ge w s.size 0 e
  have hcm : grownCap w s.size 0 e ≤ maxLen := grownCap_le_maxLen w s.size 0 e hs
  refine ⟨by rw [List.length_map]; rfl, .inr ⟨w.heap.size, _, _, _, rfl, Nat.le_refl _, heap_alloc_new w.drew _, .inr hfz, hge, hcm, ?_, ?_⟩⟩
  · simp [bytesRow]
    have : s.size = s.data.size := rfl
    omega
  · simp [bytesRow]
end
end Go.Proofs.YtkkgiajjdcpicaaGreatDoor

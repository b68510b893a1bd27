/- Maps keyed by int, read as a function of the key; over any program. -/
import Derived.Test.YtkkgiajjdcpicaaGreatDoorWords
import Derived.Maps.RangeWalk
import Derived.Maps.OwnOps
namespace Go.Proofs.YtkkgiajjdcpicaaGreatDoor
open Go.Maps (Keyed)

/-- An element as it stands. -/
def vR (v : Value) : Option (DataW Value × List MemPlace) := some (.held v, [])
def Agrees (D : DataW Value) (V : Int → Option Value) : Prop :=
  (∀ i v, V i = some v → (Lit.int .i64 i).wf = true ∧ Maps.has D (.int .i64 i) = true ∧ ∀ z, D.atKey (.int .i64 i) z = .held v) ∧ (∀ kl, Maps.has D kl = true → ∃ i v, V i = some v ∧ kl = .int .i64 i)
/-- Block m is a map of at most nn entries that holds V. -/
def IMap (P : Program) (k : TypeId) (w : World) (m nn : Nat) (V : Int → Option Value) : Prop := ∃ D : DataW Value, w.ownsMap P k vR m nn D ∧ Agrees D V

section
variable {P : Program} {k : TypeId} {w : World} {m nn : Nat} {V : Int → Option Value}
theorem wf64 {i : Int} (h : (-9223372036854775808 : Int) ≤ i) (h1 : i ≤ 9223372036854775807) : (Lit.int .i64 i).wf = true := by
  simp [Lit.wf, IntKind.min, IntKind.max, IntKind.bits, IntKind.signed]
  omega
theorem IMap.lt (h : IMap P k w m nn V) : m < w.heap.size := by obtain ⟨D, h, _⟩ := h; exact h.lt
theorem IMap.of_heap {w' : World} (h : IMap P k w m nn V) (hh : w'.heap[m]? = w.heap[m]?) : IMap P k w' m nn V := by
  obtain ⟨D, ⟨es, clock, hb, r⟩, ha⟩ := h
  exact ⟨D, ⟨es, clock, hh.trans hb, r⟩, ha⟩
theorem IMap.off {S : List Nat} {w' : World} (h : IMap P k w m nn V) (ho : Off S w w') (hm : m ∉ S) : IMap P k w' m nn V := h.of_heap (ho.block m h.lt hm)
theorem IMap.mono (h : IMap P k w m nn V) {n' : Nat} (hn : nn ≤ n') : IMap P k w m n' V := by
  obtain ⟨D, h, ha⟩ := h
  exact ⟨D, h.mono hn, ha⟩
theorem IMap.made (w : World) (P : Program) (k : TypeId) : IMap P k (w.alloc (.map #[] 0)) w.heap.size 0 (fun _ => none) :=
  ⟨.map [], World.ownsMap_made w P k vR, fun i v h => (by cases h), fun kl h => (by simp [Maps.has] at h)⟩
/-- No map. -/
theorem IMap.ne_bk {g : Nat} {t : TypeId} {cs : Array Value} (h : IMap P k w m nn V) (hb : Bk w g t cs) : g ≠ m := by
  rintro rfl
  obtain ⟨D, ⟨es, clock, hh, _⟩, _⟩ := h
  unfold Bk at hb
  rw [hb] at hh
  cases hh
theorem IMap.look {t e : TypeId} {z : Value} (h : IMap P k w m nn V) (hk : P.underlying k = some (.int .i64)) (ht : P.underlying t = some (.map k e)) (hz : (zeroValue e).run P w = .ok z w) {i : Int} (hi : (Lit.int .i64 i).wf = true) :
    (Instr.lookup t (.map (some m)) (.int .i64 i) false).run P w = .ok ((V i).getD z) w := by
  obtain ⟨D, ⟨es, clock, hb, F, hs, rfl⟩, ha⟩ := h
  have hkey := Maps.keyOf_int_mk hk hi
  rcases Maps.fit_look false (Maps.int_keyed hk) ht hz hb F hkey with ⟨hrun, _, hat⟩ | ⟨e0, y, _, _, hrun, hRv, hat, _⟩
  · cases hv : V i with
    | none => simpa using hrun
    | some v =>
      have := (ha.1 i v hv).2.2 .nil
      rw [hat .nil] at this
      cases this
  · cases hv : V i with
    | none =>
      exfalso
      have h1 := Maps.has_true_of_atKey hat
      obtain ⟨j, v, hj, he⟩ := ha.2 _ h1
      injection he with _ he
      subst he
      rw [hv] at hj
      cases hj
    | some v =>
      have h1 := (ha.1 i v hv).2.2 .nil
      rw [hat .nil] at h1
      unfold vR at hRv
      injection hRv with hRv
      subst hRv
      injection h1 with h1
      subst h1
      simpa using hrun
theorem IMap.update {t e : TypeId} (h : IMap P k w m nn V) (hk : P.underlying k = some (.int .i64)) (ht : P.underlying t = some (.map k e)) (hn : nn < maxLen) {i : Int} (hi : (Lit.int .i64 i).wf = true) (v : Value) :
    ∃ w', (Instr.mapUpdate t (.map (some m)) (.int .i64 i) v).run P w = .ok () w' ∧ IMap P k w' m (nn + 1) (fun j => if j = i then some v else V j) ∧ w.grownBy w' (some m) := by
  obtain ⟨D, hown, ha⟩ := h
  have hkey := Maps.keyOf_int_mk hk hi
  have hmap := hown.isMap
  have hkl : WideAt.IsKeyLit (Lit.int .i64 i) := (Maps.int_keyed hk).key hkey
  obtain ⟨w', hrun, hown', hg⟩ := hown.update (Maps.int_keyed hk) ht hn (val := v) hkey rfl
  refine ⟨w', hrun, ⟨_, hown', ?_, ?_⟩, hg⟩
  · intro j u hj
    have hj : (if j = i then some v else V j) = some u := hj
    by_cases hji : j = i
    · subst hji
      rw [if_pos rfl] at hj
      injection hj with hj
      subst hj
      exact ⟨hi, Maps.has_put_same hmap hkl _, fun z => Maps.atKey_put_same hmap hkl _ z⟩
    · rw [if_neg hji] at hj
      obtain ⟨h1, h2, h3⟩ := ha.1 j u hj
      have hne : Lit.int .i64 j ≠ Lit.int .i64 i := fun e => hji (by injection e)
      exact ⟨h1, by rw [Maps.has_put_other hne]; exact h2, fun z => by rw [Maps.atKey_put_other hne]; exact h3 z⟩
  · intro kl hkl'
    by_cases hki : kl = Lit.int .i64 i
    · exact ⟨i, v, if_pos rfl, hki⟩
    · rw [Maps.has_put_other hki] at hkl'
      obtain ⟨j, u, hj, rfl⟩ := ha.2 kl hkl'
      refine ⟨j, u, ?_, rfl⟩
      have hji : j ≠ i := fun e => hki (by rw [e])
      show (if j = i then some v else V j) = some u
      rw [if_neg hji]
      exact hj

/-- 'range' over such a map, under way: left says which entries are still to come, cnt how many. -/
def IRange (P : Program) (k : TypeId) (w : World) (m r nn : Nat) (V : Int → Option Value) (left : Int → Bool) (cnt : Nat) : Prop :=
  ∃ (D : DataW Value) (lf : Lit → Bool), w.ranges P k vR m r nn D lf cnt ∧ Agrees D V ∧ ∀ i, lf (.int .i64 i) = left i
theorem IRange.of_heap {w' : World} {r cnt : Nat} {left : Int → Bool} (h : IRange P k w m r nn V left cnt) (hm : w'.heap[m]? = w.heap[m]?) (hr : w'.heap[r]? = w.heap[r]?) : IRange P k w' m r nn V left cnt := by
  obtain ⟨D, lf, ⟨es, clock, since, seen, c0, hb, F, hs, hD, hr0, rest⟩, ha, hl⟩ := h
  exact ⟨D, lf, ⟨es, clock, since, seen, c0, hm.trans hb, F, hs, hD, hr.trans hr0, rest⟩, ha, hl⟩
theorem IRange.left_eq {r cnt : Nat} {left : Int → Bool} (h : IRange P k w m r nn V left cnt) : w.rangeLeft m r = cnt := by
  obtain ⟨D, lf, h, _⟩ := h
  exact h.left_eq
theorem IRange.map {r cnt : Nat} {left : Int → Bool} (h : IRange P k w m r nn V left cnt) : IMap P k w m nn V := by
  obtain ⟨D, lf, h, ha, _⟩ := h
  exact ⟨D, h.owns, ha⟩
theorem IRange.lt {r cnt : Nat} {left : Int → Bool} (h : IRange P k w m r nn V left cnt) : r < w.heap.size := by
  obtain ⟨D, lf, h, ha, _⟩ := h
  exact h.lt
theorem IRange.ne {r cnt : Nat} {left : Int → Bool} (h : IRange P k w m r nn V left cnt) : r ≠ m := by
  obtain ⟨D, lf, h, ha, _⟩ := h
  exact h.ne
theorem IRange.ne_bk {r cnt g : Nat} {t : TypeId} {cs : Array Value} {left : Int → Bool} (h : IRange P k w m r nn V left cnt) (hb : Bk w g t cs) : g ≠ r := by
  rintro rfl
  obtain ⟨D, lf, ⟨es, clock, since, seen, c0, _, _, _, _, hr0, _⟩, _⟩ := h
  unfold Bk at hb
  rw [hb] at hr0
  cases hr0
theorem has_of_agrees {D : DataW Value} (ha : Agrees D V) (i : Int) : Maps.has D (.int .i64 i) = (V i).isSome := by
  cases hv : V i with
  | some v => rw [(ha.1 i v hv).2.1]; rfl
  | none =>
    cases hh : Maps.has D (.int .i64 i) with
    | false => rfl
    | true =>
      obtain ⟨j, v, hj, he⟩ := ha.2 _ hh
      injection he with _ he
      subst he
      rw [hv] at hj
      cases hj
theorem wpList_range_imap {ops : Array Oper} {rest : List Oper} {o : Oper} {a : Act} {Q : Exit → Act → World → Prop} (hg : o.guard = none) (x : Operand) (t : TypeId) (hop : o.op = Op.range t x) (e : TypeId) (hk : P.underlying k = some (.int .i64))
    (ht : P.underlying t = some (.map k e)) (hm : a.eval x = .map (some m)) (h : IMap P k w m nn V)
    (hK : ∀ w' cnt, IRange P k w' m w.heap.size nn V (fun i => (V i).isSome) cnt → w.grownBy w' none → w'.heap.size = w.heap.size + 1 → wpList P ops Q rest (a.put o.dst (.pointer (some ⟨w.heap.size, 0, none⟩))) w') :
    wpList P ops Q (o :: rest) a w := by
  obtain ⟨D, hown, ha⟩ := h
  exact wpList_range_own w hg x t hop k e (Maps.int_keyed hk) ht vR m nn D hm hown (fun w' h1 h2 h3 => hK w' _ ⟨D, _, h1, ha, has_of_agrees ha⟩ h2 h3)
theorem wpList_next_imap {ops : Array Oper} {rest : List Oper} {o : Oper} {a : Act} {Q : Exit → Act → World → Prop} (hg : o.guard = none) (it : Operand) (hop : o.op = Op.next it false) (hk : P.underlying k = some (.int .i64))
    {r cnt : Nat} {left : Int → Bool} (hit : a.eval it = .pointer (some ⟨r, 0, none⟩)) (h : IRange P k w m r nn V left cnt)
    (hDone : (∀ i, left i = false) → wpList P ops Q rest (a.put o.dst (.tuple #[.bool false])) w)
    (hMore : ∀ (i : Int) (v : Value) (w' : World) (cnt' : Nat), V i = some v → left i = true → IRange P k w' m r nn V (fun j => left j && !decide (j = i)) cnt' → cnt' < cnt →
      w.grownBy w' (some r) → w'.heap.size = w.heap.size → (Instr.entry (.pointer (some ⟨r, 0, none⟩))).run P w' = .ok (.tuple #[.int .i64 i, v]) w' → wpList P ops Q rest (a.put o.dst (.tuple #[.bool true, .int .i64 i, v])) w') :
    wpList P ops Q (o :: rest) a w := by
  obtain ⟨D, lf, hr, ha, hl⟩ := h
  refine wpList_next_ranges w hg it hop k (Maps.int_keyed hk) vR (Value.int .i64) (fun v => v) (fun key kl hkey => by obtain ⟨x, rfl, _⟩ := Maps.keyOf_int_inv hk hkey; exact ⟨x, rfl⟩) (fun v y hv => ⟨v, rfl⟩) m r nn D lf cnt hit hr ?_ ?_
  · intro _ h2
    exact hDone (fun i => by rw [← hl]; exact h2 _)
  · intro x c kl y w' cnt' hkey hlf hv hat hrg hlt hgr hsz hen
    obtain ⟨x', ex, rfl, hwx⟩ := Maps.keyOf_int_inv hk hkey
    cases ex
    unfold vR at hv
    injection hv with hv
    subst hv
    obtain ⟨j, v, hj, he⟩ := ha.2 _ (Maps.has_true_of_atKey hat)
    injection he with _ he
    subst he
    have h3 := (ha.1 _ v hj).2.2 .nil
    rw [hat .nil] at h3
    injection h3 with h3
    subst h3
    refine hMore _ _ w' cnt' hj (by rw [← hl]; exact hlf) ⟨D, _, hrg, ha, fun i => ?_⟩ hlt hgr hsz hen
    show (lf (.int .i64 i) && !(Lit.int .i64 i).sameKey (.int .i64 x)) = _
    rw [hl]
    congr 2
    have hkl : WideAt.IsKeyLit (Lit.int .i64 x) := (Maps.int_keyed hk).key hkey
    rw [Bool.eq_iff_iff, WideAt.sameKey_iff hkl]
    simp
end
end Go.Proofs.YtkkgiajjdcpicaaGreatDoor

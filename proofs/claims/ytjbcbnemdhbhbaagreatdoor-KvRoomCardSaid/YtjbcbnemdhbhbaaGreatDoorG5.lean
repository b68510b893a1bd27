import Derived.Test.YtjbcbnemdhbhbaaGreatDoorG1
import Derived.Maps.RangeWalk
import Derived.Maps.OwnOps
import Derived.Test.YtjbcbnemdhbhbaaGreatDoorG4
import Derived.StringKeys
namespace Go.Proofs.YtjbcbnemdhbhbaaGreatDoor
open Go.Maps (Keyed)
def vR (v : Value) : Option (DataW Value × List MemPlace) := some (.held v, [])
def Agrees (D : DataW Value) (V : Int → Option Value) : Prop :=
 (∀ i v, V i = some v → (Lit.int .i64 i).wf = true ∧ Maps.has D (.int .i64 i) = true ∧ ∀ z, D.atKey (.int .i64 i) z = .held v) ∧ (∀ kl, Maps.has D kl = true → ∃ i v, V i = some v ∧ kl = .int .i64 i)
def IMap (P : Program) (k : TypeId) (w : World) (m nn : Nat) (V : Int → Option Value) : Prop := ∃ D : DataW Value, w.ownsMap P k vR m nn D ∧ Agrees D V
section
variable {P : Program} {k : TypeId} {w : World} {m nn : Nat} {V : Int → Option Value}
theorem wf64 {i : Int} (h : (-9223372036854775808 : Int) ≤ i) (h1 : i ≤ 9223372036854775807) : (Lit.int .i64 i).wf = true := by
 simp [Lit.wf, IntKind.min, IntKind.max, IntKind.bits, IntKind.signed]
 omega
theorem IMap.lt (h : IMap P k w m nn V) : m < w.heap.size := by obtain ⟨D, h, _⟩ := h; exact h.lt
theorem IMap.of_heap {w' : World} (h : IMap P k w m nn V) (hh : w'.heap[m]? = w.heap[m]?) : IMap P k w' m nn V := by
 obtain ⟨D, ⟨es, clock, hb, r⟩, ha⟩ := h
 exact ⟨D, ⟨es, clock, hh.trans hb, r⟩, ha⟩
theorem IMap.off {S : List Nat} {w' : World} (h : IMap P k w m nn V) (ho : Off S w w') (hm : m ∉ S) : IMap P k w' m nn V := h.of_heap (ho.block m h.lt hm)
theorem IMap.mono (h : IMap P k w m nn V) {n' : Nat} (hn : nn ≤ n') : IMap P k w m n' V := by
 obtain ⟨D, h, ha⟩ := h
 exact ⟨D, h.mono hn, ha⟩
theorem IMap.made (w : World) (P : Program) (k : TypeId) : IMap P k (w.alloc (.map #[] 0)) w.heap.size 0 (fun _ => none) :=
 ⟨.map [], World.ownsMap_made w P k vR, fun i v h => (by cases h), fun kl h => (by simp [Maps.has] at h)⟩
theorem IMap.ne_bk {g : Nat} {t : TypeId} {cs : Array Value} (h : IMap P k w m nn V) (hb : Bk w g t cs) : g ≠ m := by
 rintro rfl
 obtain ⟨D, ⟨es, clock, hh, _⟩, _⟩ := h
 unfold Bk at hb
 rw [hb] at hh
 cases hh
theorem IMap.look {t e : TypeId} {z : Value} (h : IMap P k w m nn V) (hk : P.underlying k = some (.int .i64)) (ht : P.underlying t = some (.map k e)) (hz : (zeroValue e).run P w = .ok z w) {i : Int} (hi : (Lit.int .i64 i).wf = true) :
   (Instr.lookup t (.map (some m)) (.int .i64 i) false).run P w = .ok ((V i).getD z) w := by
 obtain ⟨D, ⟨es, clock, hb, F, hs, rfl⟩, ha⟩ := h
 have hkey := Maps.keyOf_int_mk hk hi
 rcases Maps.fit_look false (Maps.int_keyed hk) ht hz hb F hkey with ⟨hrun, _, hat⟩ | ⟨e0, y, _, _, hrun, hRv, hat, _⟩
 · cases hv : V i with
   | none => simpa using hrun
   | some v =>
     have := (ha.1 i v hv).2.2 .nil
     rw [hat .nil] at this
     cases this
 · cases hv : V i with
   | none =>
     exfalso
     have h1 := Maps.has_true_of_atKey hat
     obtain ⟨j, v, hj, he⟩ := ha.2 _ h1
     injection he with _ he
     subst he
     rw [hv] at hj
     cases hj
   | some v =>
     have h1 := (ha.1 i v hv).2.2 .nil
     rw [hat .nil] at h1
     unfold vR at hRv
     injection hRv with hRv
     subst hRv
     injection h1 with h1
     subst h1
     simpa using hrun
theorem IMap.update {t e : TypeId} (h : IMap P k w m nn V) (hk : P.underlying k = some (.int .i64)) (ht : P.underlying t = some (.map k e)) (hn : nn < maxLen) {i : Int} (hi : (Lit.int .i64 i).wf = true) (v : Value) :
   ∃ w', (Instr.mapUpdate t (.map (some m)) (.int .i64 i) v).run P w = .ok () w' ∧ IMap P k w' m (nn + 1) (fun j => if j = i then some v else V j) ∧ w.grownBy w' (some m) := by
 obtain ⟨D, hown, ha⟩ := h
 have hkey := Maps.keyOf_int_mk hk hi
 have hmap := hown.isMap
 have hkl : WideAt.IsKeyLit (Lit.int .i64 i) := (Maps.int_keyed hk).key hkey
 obtain ⟨w', hrun, hown', hg⟩ := hown.update (Maps.int_keyed hk) ht hn (val := v) hkey rfl
 refine ⟨w', hrun, ⟨_, hown', ?_, ?_⟩, hg⟩
 · intro j u hj
   have hj : (if j = i then some v else V j) = some u := hj
   by_cases hji : j = i
   · subst hji
     rw [if_pos rfl] at hj
     injection hj with hj
     subst hj
     exact ⟨hi, Maps.has_put_same hmap hkl _, fun z => Maps.atKey_put_same hmap hkl _ z⟩
   · rw [if_neg hji] at hj
     obtain ⟨h1, h2, h3⟩ := ha.1 j u hj
     have hne : Lit.int .i64 j ≠ Lit.int .i64 i := fun e => hji (by injection e)
     exact ⟨h1, by rw [Maps.has_put_other hne]; exact h2, fun z => by rw [Maps.atKey_put_other hne]; exact h3 z⟩
 · intro kl hkl'
   by_cases hki : kl = Lit.int .i64 i
   · exact ⟨i, v, if_pos rfl, hki⟩
   · rw [Maps.has_put_other hki] at hkl'
     obtain ⟨j, u, hj, rfl⟩ := ha.2 kl hkl'
     refine ⟨j, u, ?_, rfl⟩
     have hji : j ≠ i := fun e => hki (by rw [e])
     show (if j = i then some v else V j) = some u
     rw [if_neg hji]
     exact hj
def IRange (P : Program) (k : TypeId) (w : World) (m r nn : Nat) (V : Int → Option Value) (left : Int → Bool) (cnt : Nat) : Prop :=
 ∃ (D : DataW Value) (lf : Lit → Bool), w.ranges P k vR m r nn D lf cnt ∧ Agrees D V ∧ ∀ i, lf (.int .i64 i) = left i
theorem IRange.of_heap {w' : World} {r cnt : Nat} {left : Int → Bool} (h : IRange P k w m r nn V left cnt) (hm : w'.heap[m]? = w.heap[m]?) (hr : w'.heap[r]? = w.heap[r]?) : IRange P k w' m r nn V left cnt := by
 obtain ⟨D, lf, ⟨es, clock, since, seen, c0, hb, F, hs, hD, hr0, rest⟩, ha, hl⟩ := h
 exact ⟨D, lf, ⟨es, clock, since, seen, c0, hm.trans hb, F, hs, hD, hr.trans hr0, rest⟩, ha, hl⟩
theorem IRange.left_eq {r cnt : Nat} {left : Int → Bool} (h : IRange P k w m r nn V left cnt) : w.rangeLeft m r = cnt := by
 obtain ⟨D, lf, h, _⟩ := h
 exact h.left_eq
theorem IRange.map {r cnt : Nat} {left : Int → Bool} (h : IRange P k w m r nn V left cnt) : IMap P k w m nn V := by
 obtain ⟨D, lf, h, ha, _⟩ := h
 exact ⟨D, h.owns, ha⟩
theorem IRange.lt {r cnt : Nat} {left : Int → Bool} (h : IRange P k w m r nn V left cnt) : r < w.heap.size := by
 obtain ⟨D, lf, h, ha, _⟩ := h
 exact h.lt
theorem IRange.ne {r cnt : Nat} {left : Int → Bool} (h : IRange P k w m r nn V left cnt) : r ≠ m := by
 obtain ⟨D, lf, h, ha, _⟩ := h
 exact h.ne
theorem IRange.ne_bk {r cnt g : Nat} {t : TypeId} {cs : Array Value} {left : Int → Bool} (h : IRange P k w m r nn V left cnt) (hb : Bk w g t cs) : g ≠ r := by
 rintro rfl
 obtain ⟨D, lf, ⟨es, clock, since, seen, c0, _, _, _, _, hr0, _⟩, _⟩ := h
 unfold Bk at hb
 rw [hb] at hr0
 cases hr0
theorem has_of_agrees {D : DataW Value} (ha : Agrees D V) (i : Int) : Maps.has D (.int .i64 i) = (V i).isSome := by
 cases hv : V i with
 | some v => rw [(ha.1 i v hv).2.1]; rfl
 | none =>
   cases hh : Maps.has D (.int .i64 i) with
   | false => rfl
   | true =>
     obtain ⟨j, v, hj, he⟩ := ha.2 _ hh
     injection he with _ he
     subst he
     rw [hv] at hj
     cases hj
theorem wpList_range_imap {ops : Array Oper} {rest : List Oper} {o : Oper} {a : Act} {Q : Exit → Act → World → Prop} (hg : o.guard = none) (x : Operand) (t : TypeId) (hop : o.op = Op.range t x) (e : TypeId) (hk : P.underlying k = some (.int .i64))
   (ht : P.underlying t = some (.map k e)) (hm : a.eval x = .map (some m)) (h : IMap P k w m nn V)
   (hK : ∀ w' cnt, IRange P k w' m w.heap.size nn V (fun i => (V i).isSome) cnt → w.grownBy w' none → w'.heap.size = w.heap.size + 1 → wpList P ops Q rest (a.put o.dst (.pointer (some ⟨w.heap.size, 0, none⟩))) w') :
   wpList P ops Q (o :: rest) a w := by
 obtain ⟨D, hown, ha⟩ := h
 exact wpList_range_own w hg x t hop k e (Maps.int_keyed hk) ht vR m nn D hm hown (fun w' h1 h2 h3 => hK w' _ ⟨D, _, h1, ha, has_of_agrees ha⟩ h2 h3)
theorem wpList_next_imap {ops : Array Oper} {rest : List Oper} {o : Oper} {a : Act} {Q : Exit → Act → World → Prop} (hg : o.guard = none) (it : Operand) (hop : o.op = Op.next it false) (hk : P.underlying k = some (.int .i64))
   {r cnt : Nat} {left : Int → Bool} (hit : a.eval it = .pointer (some ⟨r, 0, none⟩)) (h : IRange P k w m r nn V left cnt)
   (hDone : (∀ i, left i = false) → wpList P ops Q rest (a.put o.dst (.tuple #[.bool false])) w)
   (hMore : ∀ (i : Int) (v : Value) (w' : World) (cnt' : Nat), V i = some v → left i = true → IRange P k w' m r nn V (fun j => left j && !decide (j = i)) cnt' → cnt' < cnt →
     w.grownBy w' (some r) → w'.heap.size = w.heap.size → (Instr.entry (.pointer (some ⟨r, 0, none⟩))).run P w' = .ok (.tuple #[.int .i64 i, v]) w' → wpList P ops Q rest (a.put o.dst (.tuple #[.bool true, .int .i64 i, v])) w') :
   wpList P ops Q (o :: rest) a w := by
 obtain ⟨D, lf, hr, ha, hl⟩ := h
 refine wpList_next_ranges w hg it hop k (Maps.int_keyed hk) vR (Value.int .i64) (fun v => v) (fun key kl hkey => by obtain ⟨x, rfl, _⟩ := Maps.keyOf_int_inv hk hkey; exact ⟨x, rfl⟩) (fun v y hv => ⟨v, rfl⟩) m r nn D lf cnt hit hr ?_ ?_
 · intro _ h2
   exact hDone (fun i => by rw [← hl]; exact h2 _)
 · intro x c kl y w' cnt' hkey hlf hv hat hrg hlt hgr hsz hen
   obtain ⟨x', ex, rfl, hwx⟩ := Maps.keyOf_int_inv hk hkey
   cases ex
   unfold vR at hv
   injection hv with hv
   subst hv
   obtain ⟨j, v, hj, he⟩ := ha.2 _ (Maps.has_true_of_atKey hat)
   injection he with _ he
   subst he
   have h3 := (ha.1 _ v hj).2.2 .nil
   rw [hat .nil] at h3
   injection h3 with h3
   subst h3
   refine hMore _ _ w' cnt' hj (by rw [← hl]; exact hlf) ⟨D, _, hrg, ha, fun i => ?_⟩ hlt hgr hsz hen
   show (lf (.int .i64 i) && !(Lit.int .i64 i).sameKey (.int .i64 x)) = _
   rw [hl]
   congr 2
   have hkl : WideAt.IsKeyLit (Lit.int .i64 x) := (Maps.int_keyed hk).key hkey
   rw [Bool.eq_iff_iff, WideAt.sameKey_iff hkl]
   simp
end
end Go.Proofs.YtjbcbnemdhbhbaaGreatDoor
namespace Go.Proofs.YtjbcbnemdhbhbaaGreatDoor
open Go.RowKit
open Go.PlainAid
set_option maxRecDepth 100000
set_option linter.unusedVariables false
theorem Bk.six {w : World} {g : Nat} {t : TypeId} {c0 c1 c2 c3 c4 c5 : Value} (h : Bk w g t #[c0, c1, c2, c3, c4, c5]) :
   w.cell? ⟨g, 0, none⟩ = some c0 ∧ w.cell? ⟨g, 1, none⟩ = some c1 ∧ w.cell? ⟨g, 2, none⟩ = some c2 ∧ w.cell? ⟨g, 3, none⟩ = some c3 ∧ w.cell? ⟨g, 4, none⟩ = some c4 ∧ w.cell? ⟨g, 5, none⟩ = some c5 :=
 ⟨by simpa using h.cell 0, by simpa using h.cell 1, by simpa using h.cell 2, by simpa using h.cell 3, by simpa using h.cell 4, by simpa using h.cell 5⟩
abbrev devCells (l n : Nat) (m : Nat) (off : Bool) (fuse steps writes : Int) : Array Value :=
 #[.slice (some ⟨l, 0, none⟩) n n, .map (some m), .bool off, .int .i64 fuse, .int .i64 steps, .int .i64 writes]
def strs (l : List ByteArray) : List Value := l.map Value.string
theorem strs_one (l : List ByteArray) : ∀ u ∈ strs l, u.oneCell' = true := by
 intro u hu
 obtain ⟨x, _, rfl⟩ := List.mem_map.1 hu
 rfl
def waitV (row : List (Nat × ByteArray)) (B C : Nat → Nat) (i : Int) : Option Value :=
 if 0 ≤ i ∧ waitsOf row i.toNat ≠ [] then some (.slice (some ⟨B i.toNat, 0, none⟩) (waitsOf row i.toNat).length (C i.toNat)) else none
structure DevAt (w : World) (g : Nat) (S : List Nat) (D : DevS) (l m nn : Nat) (B C : Nat → Nat) : Prop where
 ok : D.Ok
 cells : Bk w g 156 (devCells l D.sec.length m D.off D.fuse D.steps D.writes)
 sec : Bk w l 9 (strs D.sec).toArray
 map : IMap Tryz.prog 3 w m nn (waitV D.row B C)
 nn : (nn : Int) ≤ D.writes
 own : ∀ i, D.waits i ≠ [] → w.ownsRow 0 9 1 (.slice (some ⟨B i, 0, none⟩) (D.waits i).length (C i)) (D.waits i).length (strs (D.waits i))
 apart : ∀ i j, D.waits i ≠ [] → D.waits j ≠ [] → B i = B j → i = j
 apartL : ∀ i, D.waits i ≠ [] → B i ≠ l
 inS : g ∈ S ∧ l ∈ S ∧ m ∈ S ∧ ∀ i, D.waits i ≠ [] → B i ∈ S
 old : ∀ b ∈ S, b < w.heap.size
def Dev (w : World) (g : Nat) (S : List Nat) (D : DevS) : Prop := ∃ l m nn B C, DevAt w g S D l m nn B C
theorem DevAt.off {w w' : World} {g : Nat} {S T : List Nat} {D : DevS} {l m nn : Nat} {B C : Nat → Nat} (h : DevAt w g S D l m nn B C) (ho : Off T w w') (hT : ∀ b ∈ S, b ∉ T) : DevAt w' g S D l m nn B C := by
 obtain ⟨i1, i2, i3, i4⟩ := h.inS
 exact ⟨h.ok, ho.bk h.cells (hT _ i1), ho.bk h.sec (hT _ i2), h.map.off ho (hT _ i3), h.nn, fun i hi => ho.own (h.own i hi) (fun b hb => by
   have : b = B i := by simpa [Value.ownBlock] using hb.symm
   subst this
   exact hT _ (i4 i hi)), h.apart, h.apartL, h.inS, fun b hb => Nat.lt_of_lt_of_le (h.old b hb) ho.size⟩
theorem Dev.off {w w' : World} {g : Nat} {S T : List Nat} {D : DevS} (h : Dev w g S D) (ho : Off T w w') (hT : ∀ b ∈ S, b ∉ T) : Dev w' g S D := by
 obtain ⟨l, m, nn, B, C, h⟩ := h
 exact ⟨l, m, nn, B, C, h.off ho hT⟩
theorem Dev.ok {w : World} {g : Nat} {S : List Nat} {D : DevS} (h : Dev w g S D) : D.Ok := by
 obtain ⟨l, m, nn, B, C, h⟩ := h
 exact h.ok
theorem Dev.old {w : World} {g : Nat} {S : List Nat} {D : DevS} (h : Dev w g S D) : ∀ b ∈ S, b < w.heap.size := by
 obtain ⟨l, m, nn, B, C, h⟩ := h
 exact h.old
theorem Dev.mem {w : World} {g : Nat} {S : List Nat} {D : DevS} (h : Dev w g S D) : g ∈ S := by
 obtain ⟨l, m, nn, B, C, h⟩ := h
 exact h.inS.1
theorem Dev.below {w w' : World} {g : Nat} {S : List Nat} {D : DevS} (h : Dev w g S D) (hb : Below w.heap.size w w') : Dev w' g S D := h.off (Off.of_below hb []) (fun _ _ => List.not_mem_nil)
theorem Dev.drewN {w : World} {g : Nat} {S : List Nat} {D : DevS} (h : Dev w g S D) (n : Nat) : Dev (w.drewN n) g S D := h.off ((Off.refl [] w).drewN n) (fun _ _ => List.not_mem_nil)
def Fresh (w : World) (S S' : List Nat) : Prop := ∀ b ∈ S', b ∈ S ∨ w.heap.size ≤ b
theorem Fresh.refl (w : World) (S : List Nat) : Fresh w S S := fun _ h => .inl h
theorem Fresh.trans {w w' : World} {S S' S'' : List Nat} (h : Fresh w S S') (k : Fresh w' S' S'') (hs : w.heap.size ≤ w'.heap.size) : Fresh w S S'' := fun b hb => by
 rcases k b hb with hb | hb
 · exact h b hb
 · exact .inr (Nat.le_trans hs hb)
theorem Off.fresh {S S' : List Nat} {a b c : World} (h : Off S a b) (k : Off S' b c) (hf : Fresh a S S') : Off S a c := h.then k hf
theorem Fresh.apart {w : World} {S S' T : List Nat} (h : Fresh w S S') (ha : ∀ b ∈ T, b ∉ S) (hT : ∀ b ∈ T, b < w.heap.size) : ∀ b ∈ T, b ∉ S' := fun b hb hs => by
 rcases h b hs with h1 | h1
 · exact ha b hb h1
 · have := hT b hb; omega
def DevPost (g : Nat) (S : List Nat) (D' : DevS) (r : Value) (w : World) (e : Ending) (w' : World) : Prop :=
 e = .returned r ∧ ∃ S', Dev w' g S' D' ∧ Off S w w' ∧ Fresh w S S'
set_option linter.unusedSimpArgs false
abbrev ptr (g : Nat) : Value := .pointer (some ⟨g, 0, none⟩)
theorem dsize_any {g : Nat} {S : List Nat} {D : DevS} {w : World} (hd : Dev w g S D) :
   Calls Tryz.prog 151 #[ptr g] w fun e w' => e = .returned (.int .i64 (D.sec.length : Int)) ∧ w = w' := by
 obtain ⟨l, m, nn, B, C, h⟩ := hd
 obtain ⟨c0, c1, c2, c3, c4, c5⟩ := h.cells.six
 clear h
 go_enter Tryz.func151, Tryz.ntmps151
 go_wp2_with fail
 go_ret
 exact ⟨rfl, rfl⟩
theorem dsize_nil (w : World) : Calls Tryz.prog 151 #[.pointer none] w fun e w' => e = .returned (.int .i64 0) ∧ w = w' := by
 go_enter Tryz.func151, Tryz.ntmps151
 go_wp2_with fail
 go_ret
 exact ⟨rfl, rfl⟩
def TellsT (q : Bool) (w : World) (e : Ending) (w' : World) : Prop := e = .returned (.bool q) ∧ w = w'
theorem dis_any {g : Nat} {S : List Nat} {D : DevS} {w : World} (hd : Dev w g S D) (i : Int) :
   Calls Tryz.prog 178 #[ptr g, .int .i64 i] w (TellsT (D.isIn i) w) := by
 obtain ⟨l, m, nn, B, C, h⟩ := hd
 obtain ⟨c0, c1, c2, c3, c4, c5⟩ := h.cells.six
 clear h
 have hcs : (decide (0 ≤ i) = false ∧ Hid (D.isIn i = false)) ∨ (0 ≤ i ∧ decide (0 ≤ i) = true ∧ decide (i < (D.sec.length : Int)) = false ∧ Hid (D.isIn i = false)) ∨ (0 ≤ i ∧ decide (0 ≤ i) = true ∧ decide (i < (D.sec.length : Int)) = true ∧ Hid (D.isIn i = true)) := by
   unfold DevS.isIn
   by_cases h1 : 0 ≤ i
   · by_cases h2 : i < (D.sec.length : Int)
     · exact .inr (.inr ⟨h1, by simpa using h1, by simpa using h2, show _ = _ by simp; omega⟩)
     · exact .inr (.inl ⟨h1, by simpa using h1, by simpa using h2, show _ = _ by simp; omega⟩)
   · exact .inl ⟨by simpa using h1, show _ = _ by simp; omega⟩
 rcases hcs with ⟨q1, HB⟩ | ⟨h0, q1, q2, HB⟩ | ⟨h0, q1, q2, HB⟩
 all_goals
   go_enter Tryz.func178, Tryz.ntmps178
   go_wp2_with fail
   go_ret
   exact ⟨by rw [HB.out]; rfl, rfl⟩
def StepPost (g : Nat) (q : Bool) (cs : Array Value) (w : World) (e : Ending) (w' : World) : Prop := e = .returned (.bool q) ∧ Bk w' g 156 cs ∧ Off [g] w w'
theorem dstep_off (g l n m : Nat) (fuse steps writes : Int) (w : World) (h : Bk w g 156 (devCells l n m true fuse steps writes)) :
   Calls Tryz.prog 173 #[ptr g] w (StepPost g false (devCells l n m true fuse steps writes) w) := by
 have HB := Lib.hid h
 obtain ⟨c0, c1, c2, c3, c4, c5⟩ := h.six
 clear h
 go_enter Tryz.func173, Tryz.ntmps173
 go_wp2_with fail
 go_ret
 exact ⟨rfl, HB.out, Off.refl _ _⟩
set_option maxHeartbeats 4000000 in
theorem dstep_one (g l n m : Nat) (steps writes : Int) (w : World) (h : Bk w g 156 (devCells l n m false 1 steps writes)) (h1 : 0 ≤ steps) (h2 : steps ≤ 1000000000) :
   Calls Tryz.prog 173 #[ptr g] w (StepPost g false (devCells l n m true 0 (steps + 1) writes) w) := by
 have HB := Lib.hid h
 obtain ⟨c0, c1, c2, c3, c4, c5⟩ := h.six
 have g2 := h.frozen 2
 have g3 := h.frozen 3
 have g4 := h.frozen 4
 clear h
 go_enter Tryz.func173, Tryz.ntmps173
 go_wp2_with fail
 go_ret
 exact ⟨rfl, ((HB.out.put 4 _).put 2 _).put 3 _, (((Off.refl _ _).setCell (.inl (by simp)) _).setCell (.inl (by simp)) _).setCell (.inl (by simp)) _⟩
set_option maxHeartbeats 4000000 in
theorem dstep_zero (g l n m : Nat) (steps writes : Int) (w : World) (h : Bk w g 156 (devCells l n m false 0 steps writes)) (h1 : 0 ≤ steps) (h2 : steps ≤ 1000000000) :
   Calls Tryz.prog 173 #[ptr g] w (StepPost g true (devCells l n m false 0 (steps + 1) writes) w) := by
 have HB := Lib.hid h
 obtain ⟨c0, c1, c2, c3, c4, c5⟩ := h.six
 have g3 := h.frozen 3
 have g4 := h.frozen 4
 clear h
 go_enter Tryz.func173, Tryz.ntmps173
 go_wp2_with fail
 go_ret
 exact ⟨rfl, (HB.out.put 4 _).put 3 _, ((Off.refl _ _).setCell (.inl (by simp)) _).setCell (.inl (by simp)) _⟩
set_option maxHeartbeats 4000000 in
theorem dstep_more (g l n m : Nat) (fuse steps writes : Int) (w : World) (h : Bk w g 156 (devCells l n m false fuse steps writes)) (h1 : 0 ≤ steps) (h2 : steps ≤ 1000000000) (f0 : 2 ≤ fuse) (f1 : fuse ≤ 9223372036854775807) :
   Calls Tryz.prog 173 #[ptr g] w (StepPost g true (devCells l n m false (fuse - 1) (steps + 1) writes) w) := by
 have HB := Lib.hid h
 obtain ⟨c0, c1, c2, c3, c4, c5⟩ := h.six
 have g3 := h.frozen 3
 have g4 := h.frozen 4
 have q1 : (fuse == 1) = false := by simp; omega
 have q2 : decide (fuse - 1 < 0) = false := by simp; omega
 have q3 : (0 : Int) ≤ fuse - 1 := by omega
 have q4 : decide ((0 : Int) < fuse - 1) = true := by simp; omega
 have q5 : IntKind.i64.wrap (fuse - 1) = fuse - 1 := IntWalk.i64_in _ (by omega)
 have q6 : max 0 (fuse - 1) = fuse - 1 := by omega
 clear h
 go_enter Tryz.func173, Tryz.ntmps173
 go_wp2_with fail
 go_ret
 exact ⟨rfl, (HB.out.put 4 _).put 3 _, ((Off.refl _ _).setCell (.inl (by simp)) _).setCell (.inl (by simp)) _⟩
theorem dstep_any {g l n m : Nat} {D : DevS} {w : World} (h : Bk w g 156 (devCells l n m D.off D.fuse D.steps D.writes)) (hk : D.Ok) (hs : D.steps ≤ 1000000000) :
   Calls Tryz.prog 173 #[ptr g] w (StepPost g D.stepOk (devCells l n m D.stepped.off D.stepped.fuse D.stepped.steps D.stepped.writes) w) := by
 have h0 := hk.steps0
 have f0 := hk.fuse0
 have f1 := hk.fuse1
 obtain ⟨sec, row, off, fuse, steps, writes⟩ := D
 unfold DevS.stepOk DevS.stepped
 simp only at *
 cases off with
 | true => exact dstep_off g l n m fuse steps writes w h
 | false =>
   by_cases c1 : fuse = 1
   · subst c1; exact dstep_one g l n m steps writes w h h0 hs
   · by_cases c2 : fuse = 0
     · subst c2; exact dstep_zero g l n m steps writes w h h0 hs
     · have e1 : (fuse == 1) = false := by simpa using c1
       have e2 : max 0 (fuse - 1) = fuse - 1 := by omega
       simp only [e1, e2]
       exact dstep_more g l n m fuse steps writes w h h0 hs (by omega) f1
theorem zero_strs (w : World) : (zeroValue 72).run Tryz.prog w = .ok (.slice none 0 0) w := by kernel_rfl
theorem look_run {w : World} {g : Nat} {S : List Nat} {D : DevS} {l m nn : Nat} {B C : Nat → Nat} (h : DevAt w g S D l m nn B C) (k : Nat) (hk : k ≤ 100000) :
   ∃ (A : Option Addr) (c : Nat), (Instr.lookup 154 (.map (some m)) (.int .i64 (k : Int)) false).run Tryz.prog w = .ok (.slice A (D.waits k).length c) w ∧ Sl w A (strs (D.waits k)) ∧
     w.ownsRow 0 9 1 (.slice A (D.waits k).length c) (D.waits k).length (strs (D.waits k)) ∧ (Value.slice A (D.waits k).length c) = (waitV D.row B C (k : Int)).getD (.slice none 0 0) := by
 have h1 := h.map.look (t := 154) Tryz.underlying3 Tryz.underlying154 (zero_strs w) (i := (k : Int)) (wf64 (by omega) (by omega))
 by_cases hn : D.waits k = []
 · refine ⟨none, 0, ?_, ?_, ?_, ?_⟩
   · rw [h1]
     unfold waitV
     rw [Int.toNat_natCast, if_neg (fun e => e.2 hn), hn]
     rfl
   · rw [hn]; exact Sl.nil _ _
   · rw [hn]; exact ⟨rfl, .inl ⟨rfl, rfl⟩⟩
   · unfold waitV; rw [Int.toNat_natCast, if_neg (fun e => e.2 hn), hn]; rfl
 · have ho := h.own k hn
   refine ⟨some ⟨B k, 0, none⟩, C k, ?_, Sl.of_own ho, ho, by unfold waitV; rw [Int.toNat_natCast, if_pos ⟨by omega, hn⟩]; rfl⟩
   rw [h1]
   unfold waitV
   rw [Int.toNat_natCast, if_pos ⟨by omega, hn⟩]
   rfl
def ReadPost (s : ByteArray) (e : Int) (w : World) (en : Ending) (w' : World) : Prop := en = .returned (.tuple #[.string s, .int .i64 e]) ∧ w = w'
theorem readPost_of {s s' : ByteArray} {e e' : Int} {w : World} (h : s = s') (h' : e = e') : ReadPost s e w (.returned (.tuple #[.string s', .int .i64 e'])) w := by subst h; subst h'; exact ⟨rfl, rfl⟩
theorem dread_any {g : Nat} {S : List Nat} {D : DevS} {w : World} (hd : Dev w g S D) (i : Int) (hb : D.steps ≤ 1000000000) :
   Calls Tryz.prog 152 #[ptr g, .int .i64 i] w (ReadPost (D.read i).1 (D.read i).2 w) := by
 have hd0 := Lib.hid hd
 obtain ⟨l, m, nn, B, C, h⟩ := hd
 obtain ⟨c0, c1, c2, c3, c4, c5⟩ := h.cells.six
 cases hin : D.isIn i with
 | false =>
   have HL : Hid (D.read i = (ByteArray.empty, 1)) := show _ = _ by unfold DevS.read; rw [hin]; rfl
   clear h
   go_enter Tryz.func152, Tryz.ntmps152
   go_wp2_with (go_at_call 178; refine (dis_any hd0.out i).mono ?_; rintro e w2 ⟨rfl, rfl⟩; rw [hin])
   go_ret2
   exact readPost_of (by rw [HL.out]; rfl) (by rw [HL.out])
 | true =>
   cases hoff : D.off with
   | true =>
     have HL : Hid (D.read i = (ByteArray.empty, 6)) := show _ = _ by unfold DevS.read; rw [hin, hoff]; rfl
     rw [hoff] at c2
     clear h hoff
     go_enter Tryz.func152, Tryz.ntmps152
     go_wp2_with (go_at_call 178; refine (dis_any hd0.out i).mono ?_; rintro e w2 ⟨rfl, rfl⟩; rw [hin])
     go_ret2
     exact readPost_of (by rw [HL.out]; rfl) (by rw [HL.out])
   | false =>
     obtain ⟨i0, i1⟩ := DevS.isIn_iff.1 hin
     obtain ⟨k, rfl⟩ : ∃ k : Nat, i = (k : Int) := ⟨i.toNat, by omega⟩
     have hk : k < D.sec.length := by omega
     have HL : Hid (D.read (k : Int) = (D.latest k, 0)) := show _ = _ by unfold DevS.read; rw [hin, hoff, if_pos rfl, if_neg (by simp), Int.toNat_natCast]
     rw [hoff] at c2
     obtain ⟨A, c, hrun, hsl, hr2⟩ := look_run h k (by have := h.ok.most; omega)
     clear hr2
     have hlen : (D.waits k).length ≤ 1000000000 := by
       have h1 := waitsOf_length_le D.row k
       have h2 := h.ok.rowW
       have h3 := h.ok.writesS
       unfold DevS.waits
       omega
     by_cases hn : D.waits k = []
     · have HV : Hid (D.latest k = D.sec[k]) := show _ = _ by
         rcases DevS.latest_mem hk with hm | hm
         · rw [hn] at hm; simp at hm
         · exact hm.2
       have hc : w.cell? ⟨l, k, none⟩ = some (.string D.sec[k]) := by
         rw [h.sec.cell k]
         simp [strs, hk]
       rw [hn] at hrun
       have hrun' : (Instr.lookup 154 (.map (some m)) (.int .i64 (k : Int)) false).run Tryz.prog w = .ok (.slice A 0 c) w := hrun
       clear h hoff i1 hn hrun hsl hlen
       go_enter Tryz.func152, Tryz.ntmps152
       go_wp2_with (go_at_call 178; refine (dis_any hd0.out _).mono ?_; rintro e w2 ⟨rfl, rfl⟩; rw [hin])
       go_ret2
       exact readPost_of (by rw [HL.out, HV.out]) (by rw [HL.out])
     · obtain ⟨n, hn'⟩ : ∃ n, (D.waits k).length = n + 1 := ⟨(D.waits k).length - 1, by have := List.length_pos_iff.2 hn; omega⟩
       have hlt : n < (D.waits k).length := by omega
       have HV : Hid (D.latest k = (D.waits k)[n]) := show _ = _ by
         unfold DevS.latest
         rw [List.getLastD_eq_getLast?, List.getLast?_eq_getElem?, List.getElem?_eq_getElem (by omega)]
         simp [hn']
       obtain ⟨b, o, rfl, hb, hc⟩ := hsl n (.string (D.waits k)[n]) (by simp [strs, hlt])
       rw [hn'] at hrun
       have hn2 : n < 1000000000 := by omega
       have q1 : decide ((0 : Int) < (n : Int) + 1) = true := by simp
       have HC := Lib.hid hc
       generalize hv : (D.waits k)[n] = v at *
       have hc' := HC.out
       clear h hoff i1 hn hlen hsl hn' hv hlt
       go_enter Tryz.func152, Tryz.ntmps152
       go_wp2_with (go_at_call 178; refine (dis_any hd0.out _).mono ?_; rintro e w2 ⟨rfl, rfl⟩; rw [hin])
       go_ret2
       exact readPost_of (by rw [HL.out, HV.out]) (by rw [HL.out])
end Go.Proofs.YtjbcbnemdhbhbaaGreatDoor
namespace Go.Proofs.YtjbcbnemdhbhbaaGreatDoor
open Go.Maps (Keyed)
section
variable {P : Program} {k : TypeId} {w : World} {m nn : Nat}
theorem vR_inv {v : Value} {d : DataW Value} {ps : List MemPlace} (h : vR v = some (d, ps)) : d = .held v := by
 unfold vR at h
 injection h with h
 injection h with h _
 exact h.symm
theorem Off.turned {w' : World} (h : w.mapTurned w' m) : Off [m] w w' := by
 obtain ⟨es, clock, es', clock', hb, rfl⟩ := h
 refine ⟨rfl, rfl, rfl, ?_, fun i hi hn => ?_⟩
 · simp [ChangeMaps.setBlock]
 · exact ChangeMaps.heap_setBlock_other hb _ (by simpa using hn)
theorem IMap.look2 {V : Int → Option Value} {t e : TypeId} {z : Value} (h : IMap P k w m nn V) (hk : P.underlying k = some (.int .i64)) (ht : P.underlying t = some (.map k e)) (hz : (zeroValue e).run P w = .ok z w) {i : Int} (hi : (Lit.int .i64 i).wf = true) :
   (Instr.lookup t (.map (some m)) (.int .i64 i) true).run P w = .ok (.tuple #[(V i).getD z, .bool (V i).isSome]) w := by
 obtain ⟨D, hown, ha⟩ := h
 obtain ⟨v, ps, hrun, hv⟩ := hown.look_ok (Maps.int_keyed hk) ht hz (zd := .held z) (zp := []) rfl (Maps.keyOf_int_mk hk hi)
 have h1 := vR_inv hv
 rw [hrun, has_of_agrees ha]
 cases hV : V i with
 | none =>
   have h2 : Maps.has D (.int .i64 i) = false := by rw [has_of_agrees ha, hV]; rfl
   rw [Maps.atKey_of_not_has h2] at h1
   injection h1 with h1
   subst h1
   rfl
 | some u =>
   have h2 := (ha.1 i u hV).2.2 (.held z)
   rw [h2] at h1
   injection h1 with h1
   subst h1
   rfl
theorem IMap.drop {V : Int → Option Value} {t e ty : TypeId} (h : IMap P k w m nn V) (hk : P.underlying k = some (.int .i64)) (ht : P.underlying t = some (.map k e)) {i : Int} (hi : (Lit.int .i64 i).wf = true) :
   ∃ w', (Builtin.delete_ #[t, k] ty #[.map (some m), .int .i64 i]).run P w = .ok (.tuple #[]) w' ∧ IMap P k w' m nn (fun j => if j = i then none else V j) ∧ Off [m] w w' := by
 obtain ⟨D, hown, ha⟩ := h
 obtain ⟨w', hrun, hown', ht'⟩ := hown.drop (Maps.int_keyed hk) ht (Maps.keyOf_int_mk hk hi) ty
 refine ⟨w', hrun, ⟨_, hown', ?_, ?_⟩, Off.turned ht'⟩
 · intro j u hj
   have hj : (if j = i then none else V j) = some u := hj
   by_cases e : j = i
   · rw [if_pos e] at hj; cases hj
   · rw [if_neg e] at hj
     obtain ⟨h1, h2, h3⟩ := ha.1 j u hj
     have hne : Lit.int .i64 j ≠ Lit.int .i64 i := fun he => e (by injection he)
     exact ⟨h1, by rw [Maps.has_del_other hne]; exact h2, fun z => by rw [Maps.atKey_del_other hne]; exact h3 z⟩
 · intro kl hkl
   by_cases e : kl = Lit.int .i64 i
   · subst e; rw [Maps.has_del_same] at hkl; cases hkl
   · rw [Maps.has_del_other e] at hkl
     obtain ⟨j, u, hj, rfl⟩ := ha.2 kl hkl
     refine ⟨j, u, ?_, rfl⟩
     show (if j = i then none else V j) = some u
     rw [if_neg (fun he => e (by rw [he]))]
     exact hj
def AgreesS (D : DataW Value) (V : ByteArray → Option Value) : Prop :=
 (∀ s v, V s = some v → s.size ≤ maxLen ∧ Maps.has D (.string s.data.toList) = true ∧ ∀ z, D.atKey (.string s.data.toList) z = .held v) ∧ (∀ kl, Maps.has D kl = true → ∃ s v, V s = some v ∧ kl = .string s.data.toList)
def SMap (P : Program) (k : TypeId) (w : World) (m nn : Nat) (V : ByteArray → Option Value) : Prop := ∃ D : DataW Value, w.ownsMap P k vR m nn D ∧ AgreesS D V
variable {V : ByteArray → Option Value}
theorem lit_str {a b : ByteArray} (h : Lit.string a.data.toList = Lit.string b.data.toList) : a = b := by
 injection h with h
 obtain ⟨⟨a⟩⟩ := a
 obtain ⟨⟨b⟩⟩ := b
 simp only at h
 subst h
 rfl
theorem SMap.lt (h : SMap P k w m nn V) : m < w.heap.size := by obtain ⟨D, h, _⟩ := h; exact h.lt
theorem SMap.of_heap {w' : World} (h : SMap P k w m nn V) (hh : w'.heap[m]? = w.heap[m]?) : SMap P k w' m nn V := by
 obtain ⟨D, ⟨es, clock, hb, r⟩, ha⟩ := h
 exact ⟨D, ⟨es, clock, hh.trans hb, r⟩, ha⟩
theorem SMap.off {S : List Nat} {w' : World} (h : SMap P k w m nn V) (ho : Off S w w') (hm : m ∉ S) : SMap P k w' m nn V := h.of_heap (ho.block m h.lt hm)
theorem SMap.mono (h : SMap P k w m nn V) {n' : Nat} (hn : nn ≤ n') : SMap P k w m n' V := by
 obtain ⟨D, h, ha⟩ := h
 exact ⟨D, h.mono hn, ha⟩
theorem SMap.made (w : World) (P : Program) (k : TypeId) : SMap P k (w.alloc (.map #[] 0)) w.heap.size 0 (fun _ => none) :=
 ⟨.map [], World.ownsMap_made w P k vR, fun i v h => (by cases h), fun kl h => (by simp [Maps.has] at h)⟩
theorem SMap.ne_bk {g : Nat} {t : TypeId} {cs : Array Value} (h : SMap P k w m nn V) (hb : Bk w g t cs) : g ≠ m := by
 rintro rfl
 obtain ⟨D, ⟨es, clock, hh, _⟩, _⟩ := h
 unfold Bk at hb
 rw [hb] at hh
 cases hh
theorem has_of_agreesS {D : DataW Value} (ha : AgreesS D V) (s : ByteArray) : Maps.has D (.string s.data.toList) = (V s).isSome := by
 cases hv : V s with
 | some v => rw [(ha.1 s v hv).2.1]; rfl
 | none =>
   cases hh : Maps.has D (.string s.data.toList) with
   | false => rfl
   | true =>
     obtain ⟨j, v, hj, he⟩ := ha.2 _ hh
     have := lit_str he
     subst this
     rw [hv] at hj
     cases hj
theorem SMap.look2 {t e : TypeId} {z : Value} (h : SMap P k w m nn V) (hk : P.underlying k = some .string) (ht : P.underlying t = some (.map k e)) (hz : (zeroValue e).run P w = .ok z w) {s : ByteArray} (hs : s.size ≤ maxLen) :
   (Instr.lookup t (.map (some m)) (.string s) true).run P w = .ok (.tuple #[(V s).getD z, .bool (V s).isSome]) w := by
 obtain ⟨D, hown, ha⟩ := h
 obtain ⟨v, ps, hrun, hv⟩ := hown.look_ok (Maps.string_keyed hk) ht hz (zd := .held z) (zp := []) rfl (WideMaps.keyOf_string_mk hk hs)
 have h1 := vR_inv hv
 rw [hrun, has_of_agreesS ha]
 cases hV : V s with
 | none =>
   have h2 : Maps.has D (.string s.data.toList) = false := by rw [has_of_agreesS ha, hV]; rfl
   rw [Maps.atKey_of_not_has h2] at h1
   injection h1 with h1
   subst h1
   rfl
 | some u =>
   have h2 := (ha.1 s u hV).2.2 (.held z)
   rw [h2] at h1
   injection h1 with h1
   subst h1
   rfl
theorem SMap.look {t e : TypeId} {z : Value} (h : SMap P k w m nn V) (hk : P.underlying k = some .string) (ht : P.underlying t = some (.map k e)) (hz : (zeroValue e).run P w = .ok z w) {s : ByteArray} (hs : s.size ≤ maxLen) :
   (Instr.lookup t (.map (some m)) (.string s) false).run P w = .ok ((V s).getD z) w := by
 obtain ⟨D, ⟨es, clock, hb, F, hss, rfl⟩, ha⟩ := h
 have hkey := WideMaps.keyOf_string_mk (P := P) hk hs
 rcases Maps.fit_look false (Maps.string_keyed hk) ht hz hb F hkey with ⟨hrun, _, hat⟩ | ⟨e0, y, _, _, hrun, hRv, hat, _⟩
 · cases hv : V s with
   | none => simpa using hrun
   | some v =>
     have := (ha.1 s v hv).2.2 .nil
     rw [hat .nil] at this
     cases this
 · cases hv : V s with
   | none =>
     exfalso
     have h1 := Maps.has_true_of_atKey hat
     obtain ⟨j, v, hj, he⟩ := ha.2 _ h1
     have := lit_str he
     subst this
     rw [hv] at hj
     cases hj
   | some v =>
     have h1 := (ha.1 s v hv).2.2 .nil
     rw [hat .nil] at h1
     have hRv := vR_inv hRv
     rw [h1] at hRv
     injection hRv with hRv
     subst hRv
     simpa using hrun
theorem SMap.update {t e : TypeId} (h : SMap P k w m nn V) (hk : P.underlying k = some .string) (ht : P.underlying t = some (.map k e)) (hn : nn < maxLen) {s : ByteArray} (hs : s.size ≤ maxLen) (v : Value) :
   ∃ w', (Instr.mapUpdate t (.map (some m)) (.string s) v).run P w = .ok () w' ∧ SMap P k w' m (nn + 1) (fun j => if j = s then some v else V j) ∧ w.grownBy w' (some m) := by
 obtain ⟨D, hown, ha⟩ := h
 have hkey := WideMaps.keyOf_string_mk (P := P) hk hs
 have hmap := hown.isMap
 have hkl : WideAt.IsKeyLit (Lit.string s.data.toList) := (Maps.string_keyed hk).key hkey
 obtain ⟨w', hrun, hown', hg⟩ := hown.update (Maps.string_keyed hk) ht hn (val := v) hkey rfl
 refine ⟨w', hrun, ⟨_, hown', ?_, ?_⟩, hg⟩
 · intro j u hj
   have hj : (if j = s then some v else V j) = some u := hj
   by_cases hji : j = s
   · subst hji
     rw [if_pos rfl] at hj
     injection hj with hj
     subst hj
     exact ⟨hs, Maps.has_put_same hmap hkl _, fun z => Maps.atKey_put_same hmap hkl _ z⟩
   · rw [if_neg hji] at hj
     obtain ⟨h1, h2, h3⟩ := ha.1 j u hj
     have hne : Lit.string j.data.toList ≠ Lit.string s.data.toList := fun e => hji (lit_str e)
     exact ⟨h1, by rw [Maps.has_put_other hne]; exact h2, fun z => by rw [Maps.atKey_put_other hne]; exact h3 z⟩
 · intro kl hkl'
   by_cases hki : kl = Lit.string s.data.toList
   · exact ⟨s, v, if_pos rfl, hki⟩
   · rw [Maps.has_put_other hki] at hkl'
     obtain ⟨j, u, hj, rfl⟩ := ha.2 kl hkl'
     refine ⟨j, u, ?_, rfl⟩
     have hji : j ≠ s := fun e => hki (by rw [e])
     show (if j = s then some v else V j) = some u
     rw [if_neg hji]
     exact hj
end
end Go.Proofs.YtjbcbnemdhbhbaaGreatDoor

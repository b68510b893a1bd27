/- Merged by program: CurF CurG. -/
import Derived.Test.YtllafbcnikoohaaC15
/- A cursor: Next, Prev, on, Key, Value. -/
namespace Go.Proofs.Ytllafbcnikoohaa
open Go.RowKit
set_option maxRecDepth 100000
set_option linter.unusedVariables false
set_option linter.unusedSimpArgs false
def nextO (L : List En) : Option Nat → Option Nat
  | none => none
  | some i => if i + 1 < L.length then some (i + 1) else none
def prevO : Option Nat → Option Nat
  | none => none
  | some i => if i = 0 then none else some (i - 1)
theorem step_none (σ : Book) (root : Nat) (L : List En) (by' : Int) (ch : List Ce → Nat) (h : by' = 1 ∨ by' = -1) : StepLaw σ root L by' [] none ch :=
  ⟨h, fun _ => rfl, fun pre x post m hw => by simp at hw⟩
theorem Place.idx {σ : Book} {root : Nat} {L : List En} {o : Option Nat} {way : List Lv} (h : Place σ root L o way) : ∀ x ∈ way, x.idx < x.cells.length := by
  cases o with
  | none => rw [show way = [] from h]; simp
  | some i => obtain ⟨d, h1, h2⟩ := h; exact h2.idx
set_option maxHeartbeats 8000000 in
theorem next_ok {p : Store} (hp : Serves p) {S : List Nat} {σ : Book} {c root : Nat} {R : List Nat} {L : List En} {w : World} {U : List Nat} {o : Option Nat} (h : CurIs p S σ c root R L w U o) :
    Calls Try.prog 14 #[.pointer (some ⟨c, 0, none⟩)] w (fun e w' => e = .returned (.tuple #[.bool (nextO L o).isSome, .int .i64 0]) ∧ CurPost p S σ c root R L w U (nextO L o) w') := by
  obtain ⟨v, ls, h, hpl⟩ := h
  have hst : StepLaw σ root L 1 (ls.map Prod.fst) (nextO L o) (fun _ => 0) := by
    cases o with
    | none => rw [show ls.map Prod.fst = [] from hpl]; exact step_none _ _ _ _ _ (.inl rfl)
    | some i => obtain ⟨d, h1, h2⟩ := hpl; exact step_forth h1 h2
  have HB := Lib.hid (step_ok hp h hst hpl.idx (by have := hpl.len; rwa [List.length_map] at this) (fun W => head_ok W))
  clear h hpl hst
  go_enter Try.func14, Try.ntmps14
  go_wp2_with fail
  refine HB.out.mono ?_
  rintro e w1 ⟨rfl, hto⟩
  have HT := Lib.hid hto
  clear hto
  go_wp2_with fail
  go_ret2
  exact ⟨rfl, HT.out⟩
set_option maxHeartbeats 8000000 in
theorem prev_ok {p : Store} (hp : Serves p) {S : List Nat} {σ : Book} {c root : Nat} {R : List Nat} {L : List En} {w : World} {U : List Nat} {o : Option Nat} (h : CurIs p S σ c root R L w U o) :
    Calls Try.prog 15 #[.pointer (some ⟨c, 0, none⟩)] w (fun e w' => e = .returned (.tuple #[.bool (prevO o).isSome, .int .i64 0]) ∧ CurPost p S σ c root R L w U (prevO o) w') := by
  obtain ⟨v, ls, h, hpl⟩ := h
  have hst : StepLaw σ root L (-1) (ls.map Prod.fst) (prevO o) (fun l => l.length - 1) := by
    cases o with
    | none => rw [show ls.map Prod.fst = [] from hpl]; exact step_none _ _ _ _ _ (.inr rfl)
    | some i => obtain ⟨d, h1, h2⟩ := hpl; exact step_back h1 h2
  have HB := Lib.hid (step_ok hp h hst hpl.idx (by have := hpl.len; rwa [List.length_map] at this) (fun W => tail_ok W))
  clear h hpl hst
  go_enter Try.func15, Try.ntmps15
  go_wp2_with fail
  refine HB.out.mono ?_
  rintro e w1 ⟨rfl, hto⟩
  have HT := Lib.hid hto
  clear hto
  go_wp2_with fail
  go_ret2
  exact ⟨rfl, HT.out⟩
/-- The cell that a place tells. -/
def cellAt (L : List En) : Option Nat → Ce
  | none => Ce.zero
  | some i => ((L[i]?).map (·.cell)).getD Ce.zero
def ceV (c : Ce) : Value := .agg #[.string c.key, .string c.val, .int .i64 c.over, .int .i64 c.size, .int .i64 c.child]
set_option maxHeartbeats 16000000 in
theorem on_ok {p : Store} {S : List Nat} {σ : Book} {c root : Nat} {R : List Nat} {L : List En} {w : World} {U : List Nat} {o : Option Nat} (h : CurIs p S σ c root R L w U o) :
    Calls Try.prog 27 #[.pointer (some ⟨c, 0, none⟩)] w (fun e w' => e = .returned (.tuple #[ceV (cellAt L o), .bool o.isSome]) ∧ Below w.heap.size w w') := by
  obtain ⟨v, ls, h, hpl⟩ := h
  obtain ⟨A, cc, rfl, hA, hcc⟩ := own_form h.row
  have t2 := h.top.cell 2
  have lc := h.top.lt
  cases o with
  | none =>
    have hls : ls = [] := List.map_eq_nil_iff.1 hpl
    subst hls
    clear h hpl hA
    go_enter Try.func27, Try.ntmps27
    go_wp2_with fail
    exact bodyPost_ret (v := .tuple #[ceV (cellAt L none), .bool false]) (by simp [results, Try.results27, go_sem, ceV, cellAt, Ce.zero]) rfl ⟨rfl, (Below.refl _ w).alloc (Nat.le_refl _) _⟩
  | some i =>
    have hl9 := hpl.len
    rw [List.length_map] at hl9
    obtain ⟨d, hd, hon⟩ := hpl
    obtain ⟨pre, cs, a, hw, hca⟩ := hon.last
    have hne : ls ≠ [] := by intro e; subst e; simp at hw
    have hpos : 0 < ls.length := List.length_pos_iff.2 hne
    obtain ⟨g, rfl⟩ := hA (by omega)
    obtain ⟨⟨x, q⟩, hxq⟩ : ∃ z, z = ls[ls.length - 1]'(by omega) := ⟨_, rfl⟩
    have hx : x = ⟨true, cs, a⟩ := by
      have h1 : (ls.map Prod.fst)[ls.length - 1]'(by rw [List.length_map]; omega) = x := by rw [List.getElem_map, ← hxq]
      rw [← h1]
      have h2 : ls.length = pre.length + 1 := by have := congrArg List.length hw; simpa using this
      simp only [hw]
      rw [List.getElem_append_right (by omega)]
      simp
    subst hx
    obtain ⟨c0, c1, c3, -, -, lg, -⟩ := h.level (ls.length - 1) (by omega)
    have hrow := h.cells _ (List.getElem_mem (by omega : ls.length - 1 < ls.length))
    have hai : a < cs.length := by
      have := hon.lt
      rw [List.getElem?_eq_getElem this] at hca
      exact (List.getElem?_eq_some_iff.1 (hca.trans rfl)).1
    rw [← hxq] at c0 c1 c3 hrow
    simp only at c0 c1 c3 hrow
    have hcell : cellAt L (some i) = cs[a] := by
      rw [List.getElem?_eq_getElem hai] at hca
      show ((L[i]?).map (·.cell)).getD Ce.zero = _
      rw [← hca]
      rfl
    have hqn : q.n = cs.length := hrow.1
    obtain ⟨b8, o8, hA8, ⟨-, hb8⟩, q0, q1, q2, q3, q4⟩ := hrow.at a hai
    obtain ⟨qA, qn, qc⟩ := q
    simp only at hqn hA8 c1
    subst hqn hA8
    rw [hcell]
    obtain ⟨x, hx⟩ : ∃ x, x = cs[a] := ⟨_, rfl⟩
    rw [← hx] at q0 q1 q2 q3 q4 ⊢
    have y1 : (a : Int) < (cs.length : Int) := by omega
    have y2 : (0 : Int) ≤ (a : Int) := by omega
    have y3 : ((ls.length : Int) == 0) = false := by rw [beq_eq_false_iff_ne]; omega
    have y4 : (ls.length == 0) = false := by rw [beq_eq_false_iff_ne]; omega
    obtain ⟨lm, hlm⟩ : ∃ lm, lm = ls.length - 1 := ⟨_, rfl⟩
    rw [← hlm] at c0 c1 c3
    have y5 : (ls.length : Int) - 1 = (lm : Int) := by omega
    have y6 : (lm : Int) < (ls.length : Int) := by omega
    have y7 : (0 : Int) ≤ (lm : Int) := by omega
    have y8 : IntKind.i64.wrap (lm : Int) = (lm : Int) := IntWalk.i64_in _ (by omega)
    have y9 : lm < ls.length := by omega
    clear hlm
    clear h hon hw hca hA hxq hrow hcell hx hne
    go_enter Try.func27, Try.ntmps27
    go_wp2_with fail
    go_region
    go_wp2_with fail
    exact bodyPost_ret (v := .tuple #[ceV x, .bool true]) (by simp [results, Try.results27, go_sem, ceV]) rfl ⟨rfl, (((Below.refl _ w).alloc (Nat.le_refl _) _).alloc (by simp) _).drew⟩
set_option maxHeartbeats 8000000 in
theorem key_ok {p : Store} {S : List Nat} {σ : Book} {c root : Nat} {R : List Nat} {L : List En} {w : World} {U : List Nat} {o : Option Nat} (h : CurIs p S σ c root R L w U o) :
    Calls Try.prog 12 #[.pointer (some ⟨c, 0, none⟩)] w (fun e w' => e = .returned (.string (cellAt L o).key) ∧ Below w.heap.size w w') := by
  have HB := Lib.hid (on_ok h)
  obtain ⟨x, hx⟩ : ∃ x, x = cellAt L o := ⟨_, rfl⟩
  rw [← hx] at HB ⊢
  unfold ceV at HB
  clear h hx
  go_enter Try.func12, Try.ntmps12
  go_wp2_with fail
  refine HB.out.mono ?_
  rintro e w1 ⟨rfl, hb1⟩
  have HN := Lib.hid hb1
  clear hb1
  go_wp2_with fail
  go_ret
  exact ⟨rfl, HN.out.alloc HN.out.size _⟩
/-- What a place's value tells. -/
def valAt (L : List En) : Option Nat → List UInt8
  | none => []
  | some i => ((L[i]?).map (·.val)).getD []
theorem Tr.Stored.ents {σ : Book} : ∀ {d no : Nat} {P : List Nat} {L : List En}, Tr.Stored σ d no P L → ∀ e ∈ L, Tr.EnOk σ e
  | 0, no, P, L, h, e, he => by
    obtain ⟨cs, P', rfl, g1, g2, g3, ⟨h1, h2, h3, h4⟩, g5⟩ := h
    exact h4 e he
  | d + 1, no, P, L, h, e, he => by
    obtain ⟨ks, hb, rfl⟩ := h.br
    obtain ⟨k, hk, he⟩ := List.mem_flatMap.1 he
    exact Tr.Stored.ents (hb.kids k hk) e he
set_option maxHeartbeats 8000000 in
theorem cvalue_none {p : Store} {S : List Nat} {σ : Book} {c root : Nat} {R : List Nat} {L : List En} {w : World} {U : List Nat} (h : CurIs p S σ c root R L w U none) :
    Calls Try.prog 19 #[.pointer (some ⟨c, 0, none⟩)] w (fun e w' => e = .returned (.tuple #[.string ⟨#[]⟩, .int .i64 7]) ∧ Below w.heap.size w w') := by
  have HB := Lib.hid (on_ok h)
  unfold ceV at HB
  clear h
  go_enter Try.func19, Try.ntmps19
  go_wp2_with fail
  refine HB.out.mono ?_
  rintro e w1 ⟨rfl, hb1⟩
  have HN := Lib.hid hb1
  clear hb1
  go_wp2_with fail
  go_ret2
  exact ⟨rfl, HN.out.alloc HN.out.size _⟩
set_option maxHeartbeats 8000000 in
theorem cvalue_some {p : Store} (hp : Serves p) {S : List Nat} {σ : Book} {c root : Nat} {R : List Nat} {L : List En} {w : World} {U : List Nat} {i : Nat} (h : CurIs p S σ c root R L w U (some i)) (hi : i < L.length) (hok : ∀ e ∈ L, Tr.EnOk σ e) :
    Calls Try.prog 19 #[.pointer (some ⟨c, 0, none⟩)] w (fun e w' => e = .returned (.tuple #[.string ⟨(valAt L (some i)).toArray⟩, .int .i64 0]) ∧ Below w.heap.size w w') := by
  have HB := Lib.hid (on_ok h)
  obtain ⟨v, ls, hc, -⟩ := h
  have hce : cellAt L (some i) = L[i].cell := by show ((L[i]?).map (·.cell)).getD Ce.zero = _; rw [List.getElem?_eq_getElem hi]; rfl
  have hva : valAt L (some i) = L[i].val := by show ((L[i]?).map (·.val)).getD [] = _; rw [List.getElem?_eq_getElem hi]; rfl
  have HV := Lib.hid fun (W : World) (hb : Below w.heap.size w W) => value_ok hp (hp.below hc.pages hb) L[i] (hok _ (List.getElem_mem hi))
  have t0 := hc.top.cell 0
  have HT := Lib.hid hc.top
  rw [hce] at HB
  rw [hva]
  obtain ⟨x, hx⟩ : ∃ x, x = L[i] := ⟨_, rfl⟩
  rw [← hx] at HB HV ⊢
  unfold ceV at HB
  clear hc hce hva hx hi hok
  go_enter Try.func19, Try.ntmps19
  go_wp2_with fail
  refine HB.out.mono ?_
  rintro e w1 ⟨rfl, hb1⟩
  have HN := Lib.hid hb1
  have hc1 := bk_below HT.out hb1
  have HC1 := Lib.hid hc1
  have c0 := hc1.cell 0
  have lc := hc1.lt
  clear hb1 hc1
  go_wp2_with fail
  have hb5 : Below w.heap.size w (w1.alloc (.cells #[.string x.cell.key, .string x.cell.val, .int .i64 x.cell.over, .int .i64 x.cell.size, .int .i64 x.cell.child] 68)) := HN.out.alloc HN.out.size _
  have hk5 := Bk.new w1 68 #[.string x.cell.key, .string x.cell.val, .int .i64 x.cell.over, .int .i64 x.cell.size, .int .i64 x.cell.child]
  have hc5 := HC1.out.alloc (.cells #[.string x.cell.key, .string x.cell.val, .int .i64 x.cell.over, .int .i64 x.cell.size, .int .i64 x.cell.child] 68)
  clear c0 lc
  generalize w1.alloc (.cells #[.string x.cell.key, .string x.cell.val, .int .i64 x.cell.over, .int .i64 x.cell.size, .int .i64 x.cell.child] 68) = w5 at hb5 hk5 hc5 ⊢
  have HVN := Lib.hid (HV.out _ hb5.drew)
  have HB5 := Lib.hid hb5
  have HKS := Lib.hid (show ∀ W, Below w5.heap.size w5 W → W.cell? ⟨c, 0, none⟩ = some (.iface p.T p.v) ∧ W.cell? ⟨w1.heap.size, 0, none⟩ = some (.string x.cell.key) ∧ W.cell? ⟨w1.heap.size, 1, none⟩ = some (.string x.cell.val) ∧ W.cell? ⟨w1.heap.size, 2, none⟩ = some (.int .i64 x.cell.over) ∧ W.cell? ⟨w1.heap.size, 3, none⟩ = some (.int .i64 x.cell.size) ∧ W.cell? ⟨w1.heap.size, 4, none⟩ = some (.int .i64 x.cell.child) from fun W hb => by
    have k1 := bk_below hc5 hb
    have k2 := bk_below hk5 hb
    exact ⟨k1.cell 0, k2.cell 0, k2.cell 1, k2.cell 2, k2.cell 3, k2.cell 4⟩)
  clear hb5 hk5 hc5
  go_region_held3 (fun W => W.cell? ⟨c, 0, none⟩ = some (.iface p.T p.v) ∧ W.cell? ⟨w1.heap.size, 0, none⟩ = some (.string x.cell.key) ∧ W.cell? ⟨w1.heap.size, 1, none⟩ = some (.string x.cell.val) ∧ W.cell? ⟨w1.heap.size, 2, none⟩ = some (.int .i64 x.cell.over) ∧ W.cell? ⟨w1.heap.size, 3, none⟩ = some (.int .i64 x.cell.size) ∧ W.cell? ⟨w1.heap.size, 4, none⟩ = some (.int .i64 x.cell.child))
    (first | exact HKS.out _ (Below.refl _ _).drew | exact HKS.out _ hk6.out) (first | (go_at_call 31; refine HVN.out.mono ?_; rintro e w2 ⟨rfl, hb2⟩; have hk6 := Lib.hid ((Below.refl _ w5).drew.trans hb2); have HN2 := Lib.hid (HB5.out.drew.trans (hb2.mono HB5.out.size)); clear hb2))
  all_goals
    go_wp2_with fail
    go_ret2
    exact ⟨rfl, HN2.out⟩
end Go.Proofs.Ytllafbcnikoohaa
/- A cursor: Seek. -/
namespace Go.Proofs.Ytllafbcnikoohaa
open Go.RowKit
set_option maxRecDepth 100000
set_option linter.unusedVariables false
set_option linter.unusedSimpArgs false
theorem CurPost.then {p : Store} {S : List Nat} {σ : Book} {c root : Nat} {R : List Nat} {L : List En} {w w1 w2 : World} {U U1 : List Nat} {o : Option Nat} (h1 : Off U w w1) (f1 : Fresh w U U1) (s1 : ∀ b ∈ U, b ∈ U1) (h : CurPost p S σ c root R L w1 U1 o w2) : CurPost p S σ c root R L w U o w2 := by
  obtain ⟨U2, h2, h3, h4, h5⟩ := h
  exact ⟨U2, h2, h1.then h3 f1, f1.trans h4 h1.size, fun b hb => h5 b (s1 b hb)⟩
theorem CurIs.below {p : Store} (hp : Serves p) {S : List Nat} {σ : Book} {c root : Nat} {R : List Nat} {L : List En} {w w' : World} {U : List Nat} {o : Option Nat} (h : CurIs p S σ c root R L w U o) (hb : Below w.heap.size w w') : CurIs p S σ c root R L w' U o := by
  obtain ⟨v, ls, h1, h2⟩ := h
  exact ⟨v, ls, h1.below hp hb, h2⟩
theorem CurIs.off {p : Store} (hp : Serves p) {S : List Nat} {σ : Book} {c root : Nat} {R : List Nat} {L : List En} {w w' : World} {U X : List Nat} {o : Option Nat} (h : CurIs p S σ c root R L w U o) (hb : Off X w w') (hX : ∀ b ∈ X, b ∈ R) : CurIs p S σ c root R L w' U o := by
  obtain ⟨v, ls, h1, h2⟩ := h
  exact ⟨v, ls, h1.off hp hb hX, h2⟩
def seekO (L : List En) (key : ByteArray) : Option Nat := if Tr.spotE L key < L.length then some (Tr.spotE L key) else none
set_option maxHeartbeats 16000000 in
theorem seek_any {p : Store} (hp : Serves p) {S : List Nat} {σ : Book} {c root : Nat} {R : List Nat} {L : List En} {w : World} {U : List Nat} {o : Option Nat} (h : CurIs p S σ c root R L w U o) (hL : Whole σ root L) (key : ByteArray) :
    Calls Try.prog 11 #[.pointer (some ⟨c, 0, none⟩), .string key] w (fun e w' => e = .returned (.tuple #[.bool (seekO L key).isSome, .int .i64 0]) ∧ CurPost p S σ c root R L w U (seekO L key) w') := by
  obtain ⟨v, ls, h, -⟩ := h
  have hal : Below w.heap.size w (w.alloc (.cells #[.string key] 9)) := (Below.refl _ w).alloc (Nat.le_refl _) _
  have hkn : w.heap.size ∉ U := fun hm => by have := h.lt _ hm; omega
  have HB := Lib.hid (begin_ok hp (h.below hp hal) hL (X := [w.heap.size]) (fc := 26) (caps := #[.pointer (some ⟨w.heap.size, 0, none⟩)]) (ch := Tr.seekAt key) (fun W hk => seek_ok W w.heap.size key (((hk w.heap.size (by simp)).2).trans (Bk.new w _ _))) (by simp; exact hkn) (fun l hl => Tr.seekAt_lt key l hl))
  have HAL := Lib.hid hal
  have HKN := Lib.hid hkn
  clear h hal hkn
  go_enter Try.func11, Try.ntmps11
  go_wp2_with fail
  refine HB.out.mono ?_
  rintro e w1 (⟨rfl, rfl, hto⟩ | ⟨d, i, way, hd, hdn, rfl, hto⟩)
  · have HT := Lib.hid (show CurPost p S σ c root R [] w U (seekO [] key) w1 from CurPost.then (Off.of_below HAL.out U) (Fresh.refl _ _) (fun _ h => h) hto)
    clear hto
    go_wp2_with fail
    go_ret2
    exact ⟨rfl, HT.out⟩
  · have hi := hdn.1.lt
    have hsp := Tr.near_spot (Tr.dn_seek hdn) hi
    obtain ⟨U1, hcu1, ho1, hf1, hs1⟩ := hto.post (o := some i) ⟨d, hd, hdn.1⟩
    have hkb1 : Bk w1 w.heap.size 9 #[.string key] := ho1.bk (Bk.new w _ _) HKN.out
    have hce : (cellAt L (some i)).key = (L[i]'hi).cell.key := by show (((L[i]?).map (·.cell)).getD Ce.zero).key = _; rw [List.getElem?_eq_getElem hi]; rfl
    have HKY := Lib.hid (key_ok (hcu1.below hp (Below.refl _ _).drew))
    rw [hce] at HKY
    have HCU := Lib.hid hcu1
    have HO1 := Lib.hid (show Off U w w1 from (Off.of_below HAL.out U).trans ho1)
    have HF1 := Lib.hid (show Fresh w U U1 from hf1.mono HAL.out.size)
    have HS1 := Lib.hid hs1
    have HSP := Lib.hid hsp
    have HI := Lib.hid hi
    have HKS := Lib.hid (show ∀ W, Below w1.heap.size w1 W → W.cell? ⟨w.heap.size, 0, none⟩ = some (.string key) from fun W hb => (bk_below hkb1 hb).cell 0)
    obtain ⟨k, hk⟩ : ∃ k, k = (L[i]'hi).cell.key := ⟨_, rfl⟩
    rw [← hk] at HKY HSP
    clear hto hdn hcu1 ho1 hf1 hs1 hsp hce hkb1 hk hi
    cases hlt : Nd.lt k key with
    | true =>
      have y1 : Op.bytesLess k.toList key.toList = true := hlt
      have y2 : Op.bytesLess key.toList k.toList = false := Nd.lt_asymm hlt
      have y3 := (Nd.lt_ne hlt).1
      have y4 := (Nd.lt_ne hlt).2
      have HLT := Lib.hid hlt
      clear hlt
      go_wp2_with fail
      go_region_held3 (fun W => W.cell? ⟨w.heap.size, 0, none⟩ = some (.string key)) (first | exact HKS.out _ (Below.refl _ _).drew | exact HKS.out _ hk2.out) (first | (go_at_call 12; refine HKY.out.mono ?_; rintro e w2 ⟨rfl, hb2⟩; have hk2 := Lib.hid ((Below.refl _ w1).drew.trans hb2); clear hb2))
      all_goals
        have HNX := Lib.hid (next_ok hp (HCU.out.below hp hk2.out))
        go_wp2_with fail
        refine HNX.out.mono ?_
        rintro e w3 ⟨rfl, hto⟩
        have hres : nextO L (some i) = seekO L key := by
          unfold nextO seekO
          rw [HSP.out, if_pos HLT.out]
        have HT := Lib.hid (show CurPost p S σ c root R L w U (seekO L key) w3 from by
          rw [← hres]
          exact CurPost.then (HO1.out.trans (Off.of_below hk2.out U)) HF1.out HS1.out hto)
        have HRES := Lib.hid hres
        clear hto hres
        go_wp2_with fail
        go_ret2
        exact ⟨by rw [← HRES.out]; rfl, HT.out⟩
    | false =>
      have y1 : Op.bytesLess k.toList key.toList = false := hlt
      have hres : seekO L key = some i := by
        unfold seekO
        rw [HSP.out, hlt]
        simp [HI.out]
      have HRES := Lib.hid hres
      clear hres
      have hend : ∀ W, Below w1.heap.size w1 W → CurPost p S σ c root R L w U (seekO L key) W := fun W hb => by
        rw [HRES.out]
        exact ⟨U1, HCU.out.below hp hb, HO1.out.trans (Off.of_below hb U), HF1.out, HS1.out⟩
      have HE := Lib.hid hend
      clear hend
      rcases Nd.lt_total key k with ht | ht | ht
      · have y2 : Op.bytesLess key.toList k.toList = true := ht
        have y3 := (Nd.lt_ne ht).1
        have y4 := (Nd.lt_ne ht).2
        clear ht hlt
        go_wp2_with fail
        go_region_held3 (fun W => W.cell? ⟨w.heap.size, 0, none⟩ = some (.string key)) (first | exact HKS.out _ (Below.refl _ _).drew | exact HKS.out _ hk2.out) (first | (go_at_call 12; refine HKY.out.mono ?_; rintro e w2 ⟨rfl, hb2⟩; have hk2 := Lib.hid ((Below.refl _ w1).drew.trans hb2); clear hb2))
        all_goals
          go_wp2_with fail
          go_ret2
          exact ⟨by rw [HRES.out]; rfl, HE.out _ hk2.out⟩
      · have y3 : (k.toList == key.toList) = true := by rw [ht]; simp
        have y4 : (key.toList == k.toList) = true := by rw [ht]; simp
        have y2 : Op.bytesLess key.toList k.toList = false := by rw [ht]; exact Nd.lt_irrefl _
        clear ht hlt
        go_wp2_with fail
        go_region_held3 (fun W => W.cell? ⟨w.heap.size, 0, none⟩ = some (.string key)) (first | exact HKS.out _ (Below.refl _ _).drew | exact HKS.out _ hk2.out) (first | (go_at_call 12; refine HKY.out.mono ?_; rintro e w2 ⟨rfl, hb2⟩; have hk2 := Lib.hid ((Below.refl _ w1).drew.trans hb2); clear hb2))
        all_goals
          go_wp2_with fail
          go_ret2
          exact ⟨by rw [HRES.out]; rfl, HE.out _ hk2.out⟩
      · rw [hlt] at ht; cases ht
end Go.Proofs.Ytllafbcnikoohaa

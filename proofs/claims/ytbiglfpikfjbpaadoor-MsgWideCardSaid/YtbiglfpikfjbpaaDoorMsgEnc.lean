/- A message's writer: list, operation at the unbind, Encode without controls. -/
import Derived.Test.YtbiglfpikfjbpaaDoorMsgRight
import Derived.Test.YtbiglfpikfjbpaaDoorBerD
import Derived.Deep.RegionHeld3
import Derived.Deep.MidRow
namespace Go.Proofs.YtbiglfpikfjbpaaDoor
open Go.RowKit
set_option maxRecDepth 100000
set_option linter.unusedVariables false
set_option linter.unusedSimpArgs false

/-- A tree is answered. -/
def RetT (t : Tl) (w : World) (e : Ending) (w' : World) : Prop := Below w.heap.size w w' ∧ ∃ cs, e = .returned (.agg cs) ∧ TlAt w' (fun x => w.heap.size ≤ x) t cs
def tnum (g n : Int) : Tl := .mk 0 false g ⟨(PB.ofNum n).toArray⟩ []
def tlist (ks : List Tl) : Tl := .mk 0 true 16 ⟨#[]⟩ ks
theorem bytes_of {b : ByteArray} {l : List UInt8} (h : b.data.toList = l) : b = ⟨l.toArray⟩ := by
  obtain ⟨d⟩ := b
  obtain ⟨l'⟩ := d
  simp only at h
  subst h
  rfl
theorem num_t (g n : Int) (hg : (Lit.int .i64 g).wf = true) (w : World) (hn1 : -9223372036854775808 ≤ n) (hn2 : n ≤ 9223372036854775807) : Calls Tryd.prog 18 #[.int .i64 0, .int .i64 g, .int .i64 n] w (RetT (tnum g n) w) := by
  refine (ofNumber_any 0 g n w hn1 hn2).mono ?_
  rintro e w' ⟨⟨b, rfl, hb, -, -, hl⟩, hbw⟩
  refine ⟨hbw, _, rfl, ?_⟩
  have e := bytes_of hl
  unfold tnum TlAt
  rw [← e]
  exact ⟨none, 0, rfl, ⟨Nat.zero_le _, Nat.zero_le _⟩, rfl, hg, by unfold maxLen; omega, by unfold KsAt; trivial⟩
theorem list_t (A : Option Addr) (n cap : Nat) (w : World) : Calls Tryd.prog 17 #[.slice A n cap] w fun e w' => e = .returned (.agg #[.int .i64 0, .bool true, .int .i64 16, .string ⟨#[]⟩, .slice A n cap]) ∧ Below w.heap.size w w' := by
  go_enter Tryd.func17, Tryd.ntmps17
  go_wp2_with fail
  exact bodyPost_ret (v := .agg #[.int .i64 0, .bool true, .int .i64 16, .string ⟨#[]⟩, .slice A n cap]) (by simp [results, Tryd.results17, go_sem]) rfl ⟨rfl, (Below.refl _ _).alloc (Nat.le_refl _) _⟩
theorem tlist_at {w : World} {S : Nat → Prop} {A : Option Addr} {ks : List Tl} {cap : Nat} (hl : ks.length ≤ cap ∧ cap ≤ maxLen) (hk : KsAt w S ks A 0) : TlAt w S (tlist ks) #[.int .i64 0, .bool true, .int .i64 16, .string ⟨#[]⟩, .slice A ks.length cap] := by
  unfold tlist TlAt
  exact ⟨A, cap, rfl, hl, rfl, rfl, Nat.zero_le _, hk⟩
set_option maxHeartbeats 4000000 in
theorem operation_unbind (M : Ms) (m : MC) (S : Nat → Prop) (w : World) (h : MsAt w S M m) (hop : M.op = 2) : Calls Tryd.prog 19 #[.agg m.cells] w (RetT (.mk 1 false 2 ⟨#[]⟩ []) w) := by
  obtain ⟨f, at', li, mo, de, co, rfl, -⟩ := h
  obtain ⟨cs, hcs⟩ : ∃ cs, cs = (M.mc f at' li mo de co).cells := ⟨_, rfl⟩
  have c1 : cs[1]? = some (.int .i64 2) := by rw [hcs, ← hop]; rfl
  rw [← hcs]
  clear hcs hop
  go_enter Tryd.func19, Tryd.ntmps19
  go_wp2_with fail
  refine bodyPost_ret (v := .agg #[.int .i64 1, .bool false, .int .i64 2, .string ⟨#[]⟩, .slice none 0 0]) (by simp [results, Tryd.results19, go_sem]) rfl ⟨?_, _, rfl, ?_⟩
  · exact (((Below.refl _ w).alloc (Nat.le_refl _) _).alloc (by simp) _).alloc (by simp; omega) _
  · unfold TlAt
    exact ⟨none, 0, rfl, ⟨Nat.zero_le _, Nat.zero_le _⟩, rfl, rfl, Nat.zero_le _, by unfold KsAt; trivial⟩
theorem bel_step {w1 W w2 : World} (h : Below w1.heap.size w1 W) (h2 : Below W.heap.size W w2) : Below w1.heap.size w1 w2 := h.trans (h2.mono h.size)
theorem bel1 {w1 W : World} (h : Below w1.heap.size w1 W) (o : Obj) : Below w1.heap.size w1 (W.alloc o) := h.alloc h.size o
theorem bel2 {w1 W : World} (h : Below w1.heap.size w1 W) (o p : Obj) : Below w1.heap.size w1 ((W.alloc o).alloc p) := bel1 (bel1 h o) p
theorem enc_two {w : World} {S : Nat → Prop} {blk : Nat} {t1 t2 : Tl} {x0 x2 y0 y2 : Int} {x1 y1 : Bool} {x3 y3 : ByteArray} {xA yA : Option Addr} {xn xc yn yc : Nat} (h : Bk w blk 38 #[.int .i64 x0, .bool x1, .int .i64 x2, .string x3, .slice xA xn xc, .int .i64 y0, .bool y1, .int .i64 y2, .string y3, .slice yA yn yc]) (hS : S blk)
    (h1 : TlAt w S t1 #[.int .i64 x0, .bool x1, .int .i64 x2, .string x3, .slice xA xn xc]) (h2 : TlAt w S t2 #[.int .i64 y0, .bool y1, .int .i64 y2, .string y3, .slice yA yn yc]) :
    TlAt w S (tlist [t1, t2]) #[.int .i64 0, .bool true, .int .i64 16, .string ⟨#[]⟩, .slice (some ⟨blk, 0, none⟩) 2 2] := by
  refine tlist_at (ks := [t1, t2]) ⟨by simp, by unfold maxLen; omega⟩ ?_
  unfold KsAt
  refine ⟨⟨blk, 0, _, _, _, _, _, rfl, ⟨hS, h.lt⟩, h.cell 0, h.cell 1, h.cell 2, h.cell 3, h.cell 4, h1⟩, ?_⟩
  unfold KsAt
  refine ⟨⟨blk, 0, _, _, _, _, _, rfl, ⟨hS, h.lt⟩, h.cell 5, h.cell 6, h.cell 7, h.cell 8, h.cell 9, h2⟩, ?_⟩
  unfold KsAt
  trivial
theorem bel5 {w1 W : World} {b : Nat} (h : Below w1.heap.size w1 W) (hb : w1.heap.size ≤ b) (v0 v1 v2 v3 v4 : Value) : Below w1.heap.size w1 (((((W.setCell ⟨b, 0, none⟩ v0).setCell ⟨b, 1, none⟩ v1).setCell ⟨b, 2, none⟩ v2).setCell ⟨b, 3, none⟩ v3).setCell ⟨b, 4, none⟩ v4) :=
  ((((h.setCell hb _).setCell hb _).setCell hb _).setCell hb _).setCell hb _
theorem range_of {W : World} {b : Nat} {T : TypeId} {cs : Array Value} (h : Bk W b T cs) : W.rangeAt b 0 cs.toList := fun j v hv => by
  rw [Nat.zero_add]
  exact (h.cell j).trans (by simpa using hv)
set_option maxHeartbeats 4000000 in
theorem encode_bare (M : Ms) (m : MC) (S : Nat → Prop) (t : Tl) (w : World) (h : MsAt w S M m) (ha : AnsAt w) (hr : M.right = true) (hc : M.controls = []) (hid : 0 ≤ M.id ∧ M.id ≤ 2147483647)
    (hop : ∀ W, Below w.heap.size w W → Calls Tryd.prog 19 #[.agg m.cells] W (RetT t W)) :
    Calls Tryd.prog 8 #[.agg m.cells] w (EncTop (tlist [tnum 2 M.id, t]) w) := by
  have HS := Lib.hid size_msg
  obtain ⟨f, at', li, mo, de, ⟨oA, on, oc⟩, hm, -, -, -, -, -, -, hco⟩ := id h
  obtain rfl : on = 0 := by have := hco.1; rw [hc] at this; exact this
  have hms := h
  obtain ⟨cs, hcs⟩ : ∃ cs, cs = m.cells := ⟨_, rfl⟩
  have c0 : cs[0]? = some (.int .i64 M.id) := by rw [hcs, hm]; rfl
  have c30 : cs[30]? = some (.slice oA 0 oc) := by rw [hcs, hm]; rfl
  have HSZ : Hid (cs.size = 31) := by rw [hcs]; rfl
  rw [← hcs] at hop ⊢
  have hB := (Below.refl w.heap.size w).alloc (Nat.le_refl _) (.cells cs 30)
  have HB := Lib.hid hB
  have HBK := Lib.hid (Bk.new w 30 cs)
  have HOP := Lib.hid hop
  have HRT := Lib.hid (show Calls Tryd.prog 16 #[.agg cs] (w.alloc (.cells cs 30)) (TellsQ true _) by
    have := msgRight_any M m S _ (h.keep hB.size (fun x _ hlt => hB.block x hlt) (fun _ h _ => h)) (ha.below hB); rwa [hr, ← hcs] at this)
  obtain ⟨id, hid'⟩ : ∃ id, id = M.id := ⟨_, rfl⟩
  rw [← hid'] at c0 hid ⊢
  obtain ⟨hid1, hid2⟩ := hid
  clear hcs hop hB h ha hr hc hms hm hco hid'
  go_enter Tryd.func8, Tryd.ntmps8
  go_wp2_with (first
    | (refine wpList_load_row rfl 30 (.tmp 1) rfl w.heap.size rfl 30 cs (0, 0) _ HBK.out Tryd.underlying30 rfl (by rw [HSZ.out]; exact HS.out) ?_)
    | (go_at_call 16; refine HRT.out.mono ?_; rintro e w1 ⟨rfl, hb1⟩; have HBK1 := Lib.hid (bk_below HBK.out hb1); have HB1 := Lib.hid (HB.out.trans (hb1.mono HB.out.size)); clear hb1)
    | fail)
  have HBR := Lib.hid (Below.refl w1.heap.size w1).drew
  have HNM := Lib.hid (fun W => num_t 2 id rfl W (by omega) (by omega))
  skip
  refine wp_region_held_drew (S := fun W => Bk W w.heap.size 30 cs ∧ Below w1.heap.size w1 W) (by kernel_rfl) ⟨bk_below HBK1.out HBR.out, HBR.out⟩ (fun hHeld => ?_)
  refine wpAnyH_take (i := 0) (oi := { dst := some 8, op := Op.fieldAddr 30 (Operand.tmp 1) 0, type := 0, pos := "msg.go:266", after := #[], guard := none }) (v := ?_) rfl (by kernel_rfl) (by kernel_rfl) (by kernel_rfl) (fun _ _ _ h => h) (Or.inl ⟨by rfl, ?_⟩) hHeld ?_
  rotate_left
  · intro w0 hSw
    (try dsimp only at hSw)
    skip
    go_simp
    (try with_reducible rfl)
  try simp only [Act.put, List.setIfInBounds_toArray, List.set_cons_zero, List.set_cons_succ]
  refine wpAnyH_take (i := 1) (oi := { dst := some 9, op := Op.load 3 (Operand.tmp 8), type := 3, pos := "msg.go:266", after := #[{ on := 0, ground := Ground.data }], guard := none }) (v := ?_) rfl (by kernel_rfl) (by kernel_rfl) (by kernel_rfl) (fun _ _ _ h => h) (Or.inl ⟨by rfl, ?_⟩) hHeld ?_
  rotate_left
  · intro w0 hSw
    (try dsimp only at hSw)
    have hs0 : w0.cell? ⟨w.heap.size, 0, none⟩ = some (.int .i64 id) := (hSw.1.cell 0).trans c0
    go_simp
    (try with_reducible rfl)
  try simp only [Act.put, List.setIfInBounds_toArray, List.set_cons_zero, List.set_cons_succ]
  refine' wpAnyH_take (i := 3) (oi := { dst := some 11, op := Op.load 30 (Operand.tmp 1), type := 30, pos := "msg.go:266", after := #[], guard := none }) (v := _) rfl (by kernel_rfl) (by kernel_rfl) (by kernel_rfl) (fun _ _ _ h => h) (yieldsIf_load_mid (by rfl) _ _ rfl w.heap.size 0 rfl cs.toList _ (fun W hW => range_of hW.1) Tryd.underlying30 rfl (by rw [show cs.toList.length = 31 by simpa using HSZ.out]; exact HS.out)) hHeld ?_
  try simp only [Act.put, List.setIfInBounds_toArray, List.set_cons_zero, List.set_cons_succ]
  refine wpAnyH_ready (rs := [2, 7]) (by kernel_rfl) (by simp) ?_
  refine AllReadyH.cons (o := { dst := some 10, op := Op.call { callee := Callee.value (Operand.func 18), args := #[Operand.const (Value.int IntKind.i64 0), Operand.const (Value.int IntKind.i64 2), Operand.tmp 9], argTypes := #[3, 3, 3] }, type := 38, pos := "msg.go:266", after := #[{ on := 1, ground := Ground.data }], guard := none }) rfl (fun K hK => ?_) (AllReadyH.cons (o := { dst := some 4, op := Op.alloc 38, type := 0, pos := "msg.go:266", after := #[], guard := none }) rfl (fun K hK => ?_) AllReadyH.nil)
  · go_simp
    (go_at_call 18)
    refine (HNM.out _).mono ?_
    rintro e w2 ⟨hb2, cs2, rfl, ht2⟩
    obtain ⟨x0, x1, x2, x3, xA, xn, xc, rfl⟩ := tlAt_form ht2
    have hbn2 := bel_step (W := w1.drew) HBR.out hb2
    go_wp2_with fail
    refine hK.out _ _ ⟨bk_below HBK1.out hbn2, hbn2⟩ (fun hHeld2 => ?_)
    clear hK K hHeld
    have hHeld := hHeld2
    clear hHeld2
    try simp only [Act.put, List.setIfInBounds_toArray, List.set_cons_zero, List.set_cons_succ]
    refine wpAnyH_ready (rs := [4, 7]) (by kernel_rfl) (by simp) ?_
    refine AllReadyH.cons (o := { dst := some 12, op := Op.call { callee := Callee.value (Operand.func 19), args := #[Operand.tmp 11], argTypes := #[30] }, type := 38, pos := "msg.go:266", after := #[{ on := 3, ground := Ground.data }, { on := 2, ground := Ground.chain }], guard := none }) rfl (fun K hK => ?_) (AllReadyH.cons (o := { dst := some 4, op := Op.alloc 38, type := 0, pos := "msg.go:266", after := #[], guard := none }) rfl (fun K hK => ?_) AllReadyH.nil)
    · go_simp
      (go_at_call 19)
      refine (HOP.out _ (HB1.out.trans (Below.mono hbn2 HB1.out.size))).mono ?_
      rintro e w3 ⟨hb3, cs3, rfl, ht3⟩
      obtain ⟨y0, y1, y2, y3, yA, yn, yc, rfl⟩ := tlAt_form ht3
      have hbn3 := bel_step (W := w2) hbn2 hb3
      have h23 : Below w2.heap.size w2 w3 := hb3
      go_wp2_with fail
      refine hK.out _ _ ⟨bk_below HBK1.out hbn3, hbn3⟩ (fun hHeld2 => ?_)
      clear hK K hHeld
      have hHeld := hHeld2
      clear hHeld2
      try simp only [Act.put, List.setIfInBounds_toArray, List.set_cons_zero, List.set_cons_succ]
      refine wpAnyH_ready (rs := [5, 7]) (by kernel_rfl) (by simp) ?_
      refine AllReadyH.cons (o := { dst := some 13, op := Op.buildSlice 36 2 #[(0, Operand.tmp 10), (1, Operand.tmp 12)], type := 36, pos := "msg.go:266", after := #[{ on := 2, ground := Ground.data }, { on := 4, ground := Ground.data }], guard := none }) rfl (fun K hK => ?_) (AllReadyH.cons (o := { dst := some 4, op := Op.alloc 38, type := 0, pos := "msg.go:266", after := #[], guard := none }) rfl (fun K hK => ?_) AllReadyH.nil)
      · go_simp
        refine hK.out _ _ ⟨bk_below HBK1.out (bel1 hbn3 (.cells #[.int .i64 x0, .bool x1, .int .i64 x2, .string x3, .slice xA xn xc, .int .i64 y0, .bool y1, .int .i64 y2, .string y3, .slice yA yn yc] 38)), (bel1 hbn3 (.cells #[.int .i64 x0, .bool x1, .int .i64 x2, .string x3, .slice xA xn xc, .int .i64 y0, .bool y1, .int .i64 y2, .string y3, .slice yA yn yc] 38))⟩ (fun hHeld2 => ?_)
        clear hK K hHeld
        have hHeld := hHeld2
        clear hHeld2
        try simp only [Act.put, List.setIfInBounds_toArray, List.set_cons_zero, List.set_cons_succ]
        refine wpAnyH_ready (rs := [6, 7]) (by kernel_rfl) (by simp) ?_
        refine AllReadyH.cons (o := { dst := some 14, op := Op.call { callee := Callee.value (Operand.func 17), args := #[Operand.tmp 13], argTypes := #[36] }, type := 38, pos := "msg.go:266", after := #[{ on := 5, ground := Ground.data }, { on := 4, ground := Ground.chain }], guard := none }) rfl (fun K hK => ?_) (AllReadyH.cons (o := { dst := some 4, op := Op.alloc 38, type := 0, pos := "msg.go:266", after := #[], guard := none }) rfl (fun K hK => ?_) AllReadyH.nil)
        · go_simp
          (go_at_call 17)
          refine (list_t _ _ _ _).mono ?_
          rintro e w4 ⟨rfl, hb4⟩
          have hsl4 : Bk w4 w3.heap.size 38 #[.int .i64 x0, .bool x1, .int .i64 x2, .string x3, .slice xA xn xc, .int .i64 y0, .bool y1, .int .i64 y2, .string y3, .slice yA yn yc] := bk_below (w := (w3.alloc (.cells #[.int .i64 x0, .bool x1, .int .i64 x2, .string x3, .slice xA xn xc, .int .i64 y0, .bool y1, .int .i64 y2, .string y3, .slice yA yn yc] 38))) (Bk.new w3 38 #[.int .i64 x0, .bool x1, .int .i64 x2, .string x3, .slice xA xn xc, .int .i64 y0, .bool y1, .int .i64 y2, .string y3, .slice yA yn yc]) hb4
          have h34 : Below w3.heap.size w3 w4 := bel_step (W := (w3.alloc (.cells #[.int .i64 x0, .bool x1, .int .i64 x2, .string x3, .slice xA xn xc, .int .i64 y0, .bool y1, .int .i64 y2, .string y3, .slice yA yn yc] 38))) (bel1 (Below.refl _ _) _) hb4
          have hbn4 := bel_step (W := (w3.alloc (.cells #[.int .i64 x0, .bool x1, .int .i64 x2, .string x3, .slice xA xn xc, .int .i64 y0, .bool y1, .int .i64 y2, .string y3, .slice yA yn yc] 38))) (bel1 hbn3 (.cells #[.int .i64 x0, .bool x1, .int .i64 x2, .string x3, .slice xA xn xc, .int .i64 y0, .bool y1, .int .i64 y2, .string y3, .slice yA yn yc] 38)) hb4
          have hk2 : TlAt w4 (fun x => x ≠ w4.heap.size) (tnum 2 id) _ := TlAt.below h34 _ _ (TlAt.below h23 _ _ (TlAt.keep (T := fun x => x ≠ w4.heap.size) (Nat.le_refl _) (fun _ _ _ => rfl) (fun x hx hlt => by have hx : w1.drew.heap.size ≤ x := hx; (try simp at hx); show x ≠ _; have := h23.size; have := h34.size; omega) _ _ ht2))
          have hk3 : TlAt w4 (fun x => x ≠ w4.heap.size) t _ := TlAt.below h34 _ _ (TlAt.keep (T := fun x => x ≠ w4.heap.size) (Nat.le_refl _) (fun _ _ _ => rfl) (fun x hx hlt => by have hx : w2.heap.size ≤ x := hx; (try simp at hx); show x ≠ _; have := h23.size; have := h34.size; omega) _ _ ht3)
          have hsb : w3.heap.size ≠ w4.heap.size := by have := h23.size; have := h34.size; have := hsl4.lt; omega
          have HTT := Lib.hid (enc_two (S := fun x => x ≠ w4.heap.size) hsl4 hsb hk2 hk3)
          go_wp2_with fail
          refine hK.out _ _ ⟨bk_below HBK1.out hbn4, hbn4⟩ (fun hHeld2 => ?_)
          clear hK K hHeld
          have hHeld := hHeld2
          clear hHeld2
          try simp only [Act.put, List.setIfInBounds_toArray, List.set_cons_zero, List.set_cons_succ]
          refine wpAnyH_ready (rs := [7]) (by kernel_rfl) (by simp) ?_
          refine AllReadyH.cons (o := { dst := some 4, op := Op.alloc 38, type := 0, pos := "msg.go:266", after := #[], guard := none }) rfl (fun K hK => ?_) AllReadyH.nil
          go_simp
          refine hK.out _ _ ⟨bk_below HBK1.out (bel1 hbn4 (.cells #[.int .i64 0, .bool false, .int .i64 0, .string ⟨#[]⟩, .slice none 0 0] 38)), (bel1 hbn4 (.cells #[.int .i64 0, .bool false, .int .i64 0, .string ⟨#[]⟩, .slice none 0 0] 38))⟩ (fun hHeld2 => ?_)
          clear hK K hHeld
          have hHeld := hHeld2
          clear hHeld2
          try simp only [Act.put, List.setIfInBounds_toArray, List.set_cons_zero, List.set_cons_succ]
          refine wpAnyH_ready (rs := [8]) (by kernel_rfl) (by simp) ?_
          refine AllReadyH.cons (o := { dst := none, op := Op.store 38 (Operand.tmp 4) (Operand.tmp 14), type := 0, pos := "msg.go:266", after := #[{ on := 7, ground := Ground.data }, { on := 6, ground := Ground.data }, { on := 6, ground := Ground.chain }, { on := 0, ground := Ground.phase }, { on := 1, ground := Ground.phase }, { on := 2, ground := Ground.phase }, { on := 3, ground := Ground.phase }, { on := 4, ground := Ground.phase }, { on := 5, ground := Ground.phase }, { on := 6, ground := Ground.phase }, { on := 7, ground := Ground.phase }], guard := none }) rfl (fun K hK => ?_) AllReadyH.nil
          go_simp
          have hbF := (bel1 hbn4 (.cells #[.int .i64 0, .bool true, .int .i64 16, .string ⟨#[]⟩, .slice (some ⟨w3.heap.size, 0, none⟩) 2 2] 38))
          refine hK.out _ _ ⟨bk_below HBK1.out hbF, hbF⟩ (fun hHeld2 => ?_)
          clear hK K hHeld
          have hHeld := hHeld2
          clear hHeld2
          try simp only [Act.put, List.setIfInBounds_toArray, List.set_cons_zero, List.set_cons_succ]
          refine wpAnyH_done (by kernel_rfl) ?_ _
          have hoF : Off [] w4 _ := (Off.refl [] w4).alloc (.cells #[.int .i64 0, .bool true, .int .i64 16, .string ⟨#[]⟩, .slice (some ⟨w3.heap.size, 0, none⟩) 2 2] 38)
          have HTF := Lib.hid (TlAt.keep (T := fun _ => True) hoF.size (fun x hx hlt => hoF.block x hlt (by simp)) (fun _ _ _ => trivial) _ _ HTT.out)
          have hlw1 := HBK1.out.lt
          have hsz2 := hbn2.size
          have hsz3 := hbn3.size
          have hsz4 := hbn4.size
          have hnz : ¬ (w4.heap.size = w.heap.size) := by omega
          have hnz2 : ¬ (w.heap.size = w4.heap.size) := by omega
          have q30 : w4.cell? ⟨w.heap.size, 30, none⟩ = some (.slice oA 0 oc) := ((bk_below HBK1.out hbn4).cell 30).trans c30
          have HBF := Lib.hid (HB1.out.trans (hbF.mono HB1.out.size))
          have hlw4 : w.heap.size < w4.heap.size := by omega
          clear hHeld hoF hbF hsl4 hk2 hk3 hsb HTT h23 h34 ht2 ht3
          go_wp2_with fail
          (go_at_call 22)
          refine (encodeTop_any _ _ _ _ HTF.out).mono ?_
          rintro e w5 ⟨hb5, rfl⟩
          have HB5 := Lib.hid (HBF.out.trans (hb5.mono HBF.out.size))
          clear hb5 HTF
          go_wp2_with fail
          go_ret2
          exact ⟨HB5.out, rfl⟩
        · go_simp
          refine hK.out _ _ ⟨bk_below HBK1.out (bel1 (bel1 hbn3 (.cells #[.int .i64 x0, .bool x1, .int .i64 x2, .string x3, .slice xA xn xc, .int .i64 y0, .bool y1, .int .i64 y2, .string y3, .slice yA yn yc] 38)) (.cells #[.int .i64 0, .bool false, .int .i64 0, .string ⟨#[]⟩, .slice none 0 0] 38)), (bel1 (bel1 hbn3 (.cells #[.int .i64 x0, .bool x1, .int .i64 x2, .string x3, .slice xA xn xc, .int .i64 y0, .bool y1, .int .i64 y2, .string y3, .slice yA yn yc] 38)) (.cells #[.int .i64 0, .bool false, .int .i64 0, .string ⟨#[]⟩, .slice none 0 0] 38))⟩ (fun hHeld2 => ?_)
          clear hK K hHeld
          have hHeld := hHeld2
          clear hHeld2
          try simp only [Act.put, List.setIfInBounds_toArray, List.set_cons_zero, List.set_cons_succ]
          refine wpAnyH_ready (rs := [6]) (by kernel_rfl) (by simp) ?_
          refine AllReadyH.cons (o := { dst := some 14, op := Op.call { callee := Callee.value (Operand.func 17), args := #[Operand.tmp 13], argTypes := #[36] }, type := 38, pos := "msg.go:266", after := #[{ on := 5, ground := Ground.data }, { on := 4, ground := Ground.chain }], guard := none }) rfl (fun K hK => ?_) AllReadyH.nil
          go_simp
          (go_at_call 17)
          refine (list_t _ _ _ _).mono ?_
          rintro e w4 ⟨rfl, hb4⟩
          have hsl4 : Bk w4 w3.heap.size 38 #[.int .i64 x0, .bool x1, .int .i64 x2, .string x3, .slice xA xn xc, .int .i64 y0, .bool y1, .int .i64 y2, .string y3, .slice yA yn yc] := bk_below (w := ((w3.alloc (.cells #[.int .i64 x0, .bool x1, .int .i64 x2, .string x3, .slice xA xn xc, .int .i64 y0, .bool y1, .int .i64 y2, .string y3, .slice yA yn yc] 38)).alloc (.cells #[.int .i64 0, .bool false, .int .i64 0, .string ⟨#[]⟩, .slice none 0 0] 38))) (Bk.alloc (Bk.new w3 38 #[.int .i64 x0, .bool x1, .int .i64 x2, .string x3, .slice xA xn xc, .int .i64 y0, .bool y1, .int .i64 y2, .string y3, .slice yA yn yc]) (.cells #[.int .i64 0, .bool false, .int .i64 0, .string ⟨#[]⟩, .slice none 0 0] 38)) hb4
          have h34 : Below w3.heap.size w3 w4 := bel_step (W := ((w3.alloc (.cells #[.int .i64 x0, .bool x1, .int .i64 x2, .string x3, .slice xA xn xc, .int .i64 y0, .bool y1, .int .i64 y2, .string y3, .slice yA yn yc] 38)).alloc (.cells #[.int .i64 0, .bool false, .int .i64 0, .string ⟨#[]⟩, .slice none 0 0] 38))) (bel2 (Below.refl _ _) _ _) hb4
          have hz4 : Bk w4 (w3.heap.size + 1) 38 #[.int .i64 0, .bool false, .int .i64 0, .string ⟨#[]⟩, .slice none 0 0] := bk_below (w := ((w3.alloc (.cells #[.int .i64 x0, .bool x1, .int .i64 x2, .string x3, .slice xA xn xc, .int .i64 y0, .bool y1, .int .i64 y2, .string y3, .slice yA yn yc] 38)).alloc (.cells #[.int .i64 0, .bool false, .int .i64 0, .string ⟨#[]⟩, .slice none 0 0] 38))) (show Bk ((w3.alloc (.cells #[.int .i64 x0, .bool x1, .int .i64 x2, .string x3, .slice xA xn xc, .int .i64 y0, .bool y1, .int .i64 y2, .string y3, .slice yA yn yc] 38)).alloc (.cells #[.int .i64 0, .bool false, .int .i64 0, .string ⟨#[]⟩, .slice none 0 0] 38)) (w3.heap.size + 1) 38 #[.int .i64 0, .bool false, .int .i64 0, .string ⟨#[]⟩, .slice none 0 0] by have h := Bk.new (w3.alloc (.cells #[.int .i64 x0, .bool x1, .int .i64 x2, .string x3, .slice xA xn xc, .int .i64 y0, .bool y1, .int .i64 y2, .string y3, .slice yA yn yc] 38)) 38 #[.int .i64 0, .bool false, .int .i64 0, .string ⟨#[]⟩, .slice none 0 0]; simpa using h) hb4
          obtain ⟨z0, z1, z2, z3, z4⟩ := hz4.five
          have g0 := hz4.frozen 0
          have g1 := hz4.frozen 1
          have g2 := hz4.frozen 2
          have g3 := hz4.frozen 3
          have g4 := hz4.frozen 4
          have gl := hz4.lt
          have hbn4 := bel_step (W := ((w3.alloc (.cells #[.int .i64 x0, .bool x1, .int .i64 x2, .string x3, .slice xA xn xc, .int .i64 y0, .bool y1, .int .i64 y2, .string y3, .slice yA yn yc] 38)).alloc (.cells #[.int .i64 0, .bool false, .int .i64 0, .string ⟨#[]⟩, .slice none 0 0] 38))) (bel1 (bel1 hbn3 (.cells #[.int .i64 x0, .bool x1, .int .i64 x2, .string x3, .slice xA xn xc, .int .i64 y0, .bool y1, .int .i64 y2, .string y3, .slice yA yn yc] 38)) (.cells #[.int .i64 0, .bool false, .int .i64 0, .string ⟨#[]⟩, .slice none 0 0] 38)) hb4
          have hk2 : TlAt w4 (fun x => x ≠ (w3.heap.size + 1)) (tnum 2 id) _ := TlAt.below h34 _ _ (TlAt.below h23 _ _ (TlAt.keep (T := fun x => x ≠ (w3.heap.size + 1)) (Nat.le_refl _) (fun _ _ _ => rfl) (fun x hx hlt => by have hx : w1.drew.heap.size ≤ x := hx; (try simp at hx); show x ≠ _; have := h23.size; have := h34.size; omega) _ _ ht2))
          have hk3 : TlAt w4 (fun x => x ≠ (w3.heap.size + 1)) t _ := TlAt.below h34 _ _ (TlAt.keep (T := fun x => x ≠ (w3.heap.size + 1)) (Nat.le_refl _) (fun _ _ _ => rfl) (fun x hx hlt => by have hx : w2.heap.size ≤ x := hx; (try simp at hx); show x ≠ _; have := h23.size; have := h34.size; omega) _ _ ht3)
          have hsb : w3.heap.size ≠ (w3.heap.size + 1) := by have := h23.size; have := h34.size; have := hsl4.lt; omega
          have HTT := Lib.hid (enc_two (S := fun x => x ≠ (w3.heap.size + 1)) hsl4 hsb hk2 hk3)
          go_wp2_with fail
          refine hK.out _ _ ⟨bk_below HBK1.out hbn4, hbn4⟩ (fun hHeld2 => ?_)
          clear hK K hHeld
          have hHeld := hHeld2
          clear hHeld2
          try simp only [Act.put, List.setIfInBounds_toArray, List.set_cons_zero, List.set_cons_succ]
          refine wpAnyH_ready (rs := [8]) (by kernel_rfl) (by simp) ?_
          refine AllReadyH.cons (o := { dst := none, op := Op.store 38 (Operand.tmp 4) (Operand.tmp 14), type := 0, pos := "msg.go:266", after := #[{ on := 7, ground := Ground.data }, { on := 6, ground := Ground.data }, { on := 6, ground := Ground.chain }, { on := 0, ground := Ground.phase }, { on := 1, ground := Ground.phase }, { on := 2, ground := Ground.phase }, { on := 3, ground := Ground.phase }, { on := 4, ground := Ground.phase }, { on := 5, ground := Ground.phase }, { on := 6, ground := Ground.phase }, { on := 7, ground := Ground.phase }], guard := none }) rfl (fun K hK => ?_) AllReadyH.nil
          go_simp
          have hbF := (bel5 (b := (w3.heap.size + 1)) hbn4 (by have := hbn2.size; have := hbn3.size; have := hbn4.size; omega) (.int .i64 0) (.bool true) (.int .i64 16) (.string ⟨#[]⟩) (.slice (some ⟨w3.heap.size, 0, none⟩) 2 2))
          refine hK.out _ _ ⟨bk_below HBK1.out hbF, hbF⟩ (fun hHeld2 => ?_)
          clear hK K hHeld
          have hHeld := hHeld2
          clear hHeld2
          try simp only [Act.put, List.setIfInBounds_toArray, List.set_cons_zero, List.set_cons_succ]
          refine wpAnyH_done (by kernel_rfl) ?_ _
          have hoF : Off [(w3.heap.size + 1)] w4 _ := (((((Off.refl [(w3.heap.size + 1)] w4).setCell (p := ⟨(w3.heap.size + 1), 0, none⟩) (.inl (by simp)) (.int .i64 0)).setCell (p := ⟨(w3.heap.size + 1), 1, none⟩) (.inl (by simp)) (.bool true)).setCell (p := ⟨(w3.heap.size + 1), 2, none⟩) (.inl (by simp)) (.int .i64 16)).setCell (p := ⟨(w3.heap.size + 1), 3, none⟩) (.inl (by simp)) (.string ⟨#[]⟩)).setCell (p := ⟨(w3.heap.size + 1), 4, none⟩) (.inl (by simp)) (.slice (some ⟨w3.heap.size, 0, none⟩) 2 2)
          have HTF := Lib.hid (TlAt.keep (T := fun _ => True) hoF.size (fun x hx hlt => hoF.block x hlt (by have hx : x ≠ (w3.heap.size + 1) := hx; simpa using hx)) (fun _ _ _ => trivial) _ _ HTT.out)
          have hlw1 := HBK1.out.lt
          have hsz2 := hbn2.size
          have hsz3 := hbn3.size
          have hsz4 := hbn4.size
          have hnz : ¬ ((w3.heap.size + 1) = w.heap.size) := by omega
          have hnz2 : ¬ (w.heap.size = (w3.heap.size + 1)) := by omega
          have q30 : w4.cell? ⟨w.heap.size, 30, none⟩ = some (.slice oA 0 oc) := ((bk_below HBK1.out hbn4).cell 30).trans c30
          have HBF := Lib.hid (HB1.out.trans (hbF.mono HB1.out.size))
          have hlw4 : w.heap.size < w4.heap.size := by omega
          clear hHeld hoF hbF hsl4 hk2 hk3 hsb HTT h23 h34 ht2 ht3
          go_wp2_with fail
          (go_at_call 22)
          refine (encodeTop_any _ _ _ _ HTF.out).mono ?_
          rintro e w5 ⟨hb5, rfl⟩
          have HB5 := Lib.hid (HBF.out.trans (hb5.mono HBF.out.size))
          clear hb5 HTF
          go_wp2_with fail
          go_ret2
          exact ⟨HB5.out, rfl⟩
      · go_simp
        refine hK.out _ _ ⟨bk_below HBK1.out (bel1 hbn3 (.cells #[.int .i64 0, .bool false, .int .i64 0, .string ⟨#[]⟩, .slice none 0 0] 38)), (bel1 hbn3 (.cells #[.int .i64 0, .bool false, .int .i64 0, .string ⟨#[]⟩, .slice none 0 0] 38))⟩ (fun hHeld2 => ?_)
        clear hK K hHeld
        have hHeld := hHeld2
        clear hHeld2
        try simp only [Act.put, List.setIfInBounds_toArray, List.set_cons_zero, List.set_cons_succ]
        refine wpAnyH_ready (rs := [5]) (by kernel_rfl) (by simp) ?_
        refine AllReadyH.cons (o := { dst := some 13, op := Op.buildSlice 36 2 #[(0, Operand.tmp 10), (1, Operand.tmp 12)], type := 36, pos := "msg.go:266", after := #[{ on := 2, ground := Ground.data }, { on := 4, ground := Ground.data }], guard := none }) rfl (fun K hK => ?_) AllReadyH.nil
        go_simp
        refine hK.out _ _ ⟨bk_below HBK1.out (bel1 (bel1 hbn3 (.cells #[.int .i64 0, .bool false, .int .i64 0, .string ⟨#[]⟩, .slice none 0 0] 38)) (.cells #[.int .i64 x0, .bool x1, .int .i64 x2, .string x3, .slice xA xn xc, .int .i64 y0, .bool y1, .int .i64 y2, .string y3, .slice yA yn yc] 38)), (bel1 (bel1 hbn3 (.cells #[.int .i64 0, .bool false, .int .i64 0, .string ⟨#[]⟩, .slice none 0 0] 38)) (.cells #[.int .i64 x0, .bool x1, .int .i64 x2, .string x3, .slice xA xn xc, .int .i64 y0, .bool y1, .int .i64 y2, .string y3, .slice yA yn yc] 38))⟩ (fun hHeld2 => ?_)
        clear hK K hHeld
        have hHeld := hHeld2
        clear hHeld2
        try simp only [Act.put, List.setIfInBounds_toArray, List.set_cons_zero, List.set_cons_succ]
        refine wpAnyH_ready (rs := [6]) (by kernel_rfl) (by simp) ?_
        refine AllReadyH.cons (o := { dst := some 14, op := Op.call { callee := Callee.value (Operand.func 17), args := #[Operand.tmp 13], argTypes := #[36] }, type := 38, pos := "msg.go:266", after := #[{ on := 5, ground := Ground.data }, { on := 4, ground := Ground.chain }], guard := none }) rfl (fun K hK => ?_) AllReadyH.nil
        go_simp
        (go_at_call 17)
        refine (list_t _ _ _ _).mono ?_
        rintro e w4 ⟨rfl, hb4⟩
        have hsl4 : Bk w4 (w3.heap.size + 1) 38 #[.int .i64 x0, .bool x1, .int .i64 x2, .string x3, .slice xA xn xc, .int .i64 y0, .bool y1, .int .i64 y2, .string y3, .slice yA yn yc] := bk_below (w := ((w3.alloc (.cells #[.int .i64 0, .bool false, .int .i64 0, .string ⟨#[]⟩, .slice none 0 0] 38)).alloc (.cells #[.int .i64 x0, .bool x1, .int .i64 x2, .string x3, .slice xA xn xc, .int .i64 y0, .bool y1, .int .i64 y2, .string y3, .slice yA yn yc] 38))) (show Bk ((w3.alloc (.cells #[.int .i64 0, .bool false, .int .i64 0, .string ⟨#[]⟩, .slice none 0 0] 38)).alloc (.cells #[.int .i64 x0, .bool x1, .int .i64 x2, .string x3, .slice xA xn xc, .int .i64 y0, .bool y1, .int .i64 y2, .string y3, .slice yA yn yc] 38)) (w3.heap.size + 1) 38 #[.int .i64 x0, .bool x1, .int .i64 x2, .string x3, .slice xA xn xc, .int .i64 y0, .bool y1, .int .i64 y2, .string y3, .slice yA yn yc] by have h := Bk.new (w3.alloc (.cells #[.int .i64 0, .bool false, .int .i64 0, .string ⟨#[]⟩, .slice none 0 0] 38)) 38 #[.int .i64 x0, .bool x1, .int .i64 x2, .string x3, .slice xA xn xc, .int .i64 y0, .bool y1, .int .i64 y2, .string y3, .slice yA yn yc]; simpa using h) hb4
        have h34 : Below w3.heap.size w3 w4 := bel_step (W := ((w3.alloc (.cells #[.int .i64 0, .bool false, .int .i64 0, .string ⟨#[]⟩, .slice none 0 0] 38)).alloc (.cells #[.int .i64 x0, .bool x1, .int .i64 x2, .string x3, .slice xA xn xc, .int .i64 y0, .bool y1, .int .i64 y2, .string y3, .slice yA yn yc] 38))) (bel2 (Below.refl _ _) _ _) hb4
        have hz4 : Bk w4 w3.heap.size 38 #[.int .i64 0, .bool false, .int .i64 0, .string ⟨#[]⟩, .slice none 0 0] := bk_below (w := ((w3.alloc (.cells #[.int .i64 0, .bool false, .int .i64 0, .string ⟨#[]⟩, .slice none 0 0] 38)).alloc (.cells #[.int .i64 x0, .bool x1, .int .i64 x2, .string x3, .slice xA xn xc, .int .i64 y0, .bool y1, .int .i64 y2, .string y3, .slice yA yn yc] 38))) (Bk.alloc (Bk.new w3 38 #[.int .i64 0, .bool false, .int .i64 0, .string ⟨#[]⟩, .slice none 0 0]) (.cells #[.int .i64 x0, .bool x1, .int .i64 x2, .string x3, .slice xA xn xc, .int .i64 y0, .bool y1, .int .i64 y2, .string y3, .slice yA yn yc] 38)) hb4
        obtain ⟨z0, z1, z2, z3, z4⟩ := hz4.five
        have g0 := hz4.frozen 0
        have g1 := hz4.frozen 1
        have g2 := hz4.frozen 2
        have g3 := hz4.frozen 3
        have g4 := hz4.frozen 4
        have gl := hz4.lt
        have hbn4 := bel_step (W := ((w3.alloc (.cells #[.int .i64 0, .bool false, .int .i64 0, .string ⟨#[]⟩, .slice none 0 0] 38)).alloc (.cells #[.int .i64 x0, .bool x1, .int .i64 x2, .string x3, .slice xA xn xc, .int .i64 y0, .bool y1, .int .i64 y2, .string y3, .slice yA yn yc] 38))) (bel1 (bel1 hbn3 (.cells #[.int .i64 0, .bool false, .int .i64 0, .string ⟨#[]⟩, .slice none 0 0] 38)) (.cells #[.int .i64 x0, .bool x1, .int .i64 x2, .string x3, .slice xA xn xc, .int .i64 y0, .bool y1, .int .i64 y2, .string y3, .slice yA yn yc] 38)) hb4
        have hk2 : TlAt w4 (fun x => x ≠ w3.heap.size) (tnum 2 id) _ := TlAt.below h34 _ _ (TlAt.below h23 _ _ (TlAt.keep (T := fun x => x ≠ w3.heap.size) (Nat.le_refl _) (fun _ _ _ => rfl) (fun x hx hlt => by have hx : w1.drew.heap.size ≤ x := hx; (try simp at hx); show x ≠ _; have := h23.size; have := h34.size; omega) _ _ ht2))
        have hk3 : TlAt w4 (fun x => x ≠ w3.heap.size) t _ := TlAt.below h34 _ _ (TlAt.keep (T := fun x => x ≠ w3.heap.size) (Nat.le_refl _) (fun _ _ _ => rfl) (fun x hx hlt => by have hx : w2.heap.size ≤ x := hx; (try simp at hx); show x ≠ _; have := h23.size; have := h34.size; omega) _ _ ht3)
        have hsb : (w3.heap.size + 1) ≠ w3.heap.size := by have := h23.size; have := h34.size; have := hsl4.lt; omega
        have HTT := Lib.hid (enc_two (S := fun x => x ≠ w3.heap.size) hsl4 hsb hk2 hk3)
        go_wp2_with fail
        refine hK.out _ _ ⟨bk_below HBK1.out hbn4, hbn4⟩ (fun hHeld2 => ?_)
        clear hK K hHeld
        have hHeld := hHeld2
        clear hHeld2
        try simp only [Act.put, List.setIfInBounds_toArray, List.set_cons_zero, List.set_cons_succ]
        refine wpAnyH_ready (rs := [8]) (by kernel_rfl) (by simp) ?_
        refine AllReadyH.cons (o := { dst := none, op := Op.store 38 (Operand.tmp 4) (Operand.tmp 14), type := 0, pos := "msg.go:266", after := #[{ on := 7, ground := Ground.data }, { on := 6, ground := Ground.data }, { on := 6, ground := Ground.chain }, { on := 0, ground := Ground.phase }, { on := 1, ground := Ground.phase }, { on := 2, ground := Ground.phase }, { on := 3, ground := Ground.phase }, { on := 4, ground := Ground.phase }, { on := 5, ground := Ground.phase }, { on := 6, ground := Ground.phase }, { on := 7, ground := Ground.phase }], guard := none }) rfl (fun K hK => ?_) AllReadyH.nil
        go_simp
        have hbF := (bel5 (b := w3.heap.size) hbn4 (by have := hbn2.size; have := hbn3.size; have := hbn4.size; omega) (.int .i64 0) (.bool true) (.int .i64 16) (.string ⟨#[]⟩) (.slice (some ⟨(w3.heap.size + 1), 0, none⟩) 2 2))
        refine hK.out _ _ ⟨bk_below HBK1.out hbF, hbF⟩ (fun hHeld2 => ?_)
        clear hK K hHeld
        have hHeld := hHeld2
        clear hHeld2
        try simp only [Act.put, List.setIfInBounds_toArray, List.set_cons_zero, List.set_cons_succ]
        refine wpAnyH_done (by kernel_rfl) ?_ _
        have hoF : Off [w3.heap.size] w4 _ := (((((Off.refl [w3.heap.size] w4).setCell (p := ⟨w3.heap.size, 0, none⟩) (.inl (by simp)) (.int .i64 0)).setCell (p := ⟨w3.heap.size, 1, none⟩) (.inl (by simp)) (.bool true)).setCell (p := ⟨w3.heap.size, 2, none⟩) (.inl (by simp)) (.int .i64 16)).setCell (p := ⟨w3.heap.size, 3, none⟩) (.inl (by simp)) (.string ⟨#[]⟩)).setCell (p := ⟨w3.heap.size, 4, none⟩) (.inl (by simp)) (.slice (some ⟨(w3.heap.size + 1), 0, none⟩) 2 2)
        have HTF := Lib.hid (TlAt.keep (T := fun _ => True) hoF.size (fun x hx hlt => hoF.block x hlt (by have hx : x ≠ w3.heap.size := hx; simpa using hx)) (fun _ _ _ => trivial) _ _ HTT.out)
        have hlw1 := HBK1.out.lt
        have hsz2 := hbn2.size
        have hsz3 := hbn3.size
        have hsz4 := hbn4.size
        have hnz : ¬ (w3.heap.size = w.heap.size) := by omega
        have hnz2 : ¬ (w.heap.size = w3.heap.size) := by omega
        have q30 : w4.cell? ⟨w.heap.size, 30, none⟩ = some (.slice oA 0 oc) := ((bk_below HBK1.out hbn4).cell 30).trans c30
        have HBF := Lib.hid (HB1.out.trans (hbF.mono HB1.out.size))
        have hlw4 : w.heap.size < w4.heap.size := by omega
        clear hHeld hoF hbF hsl4 hk2 hk3 hsb HTT h23 h34 ht2 ht3
        go_wp2_with fail
        (go_at_call 22)
        refine (encodeTop_any _ _ _ _ HTF.out).mono ?_
        rintro e w5 ⟨hb5, rfl⟩
        have HB5 := Lib.hid (HBF.out.trans (hb5.mono HBF.out.size))
        clear hb5 HTF
        go_wp2_with fail
        go_ret2
        exact ⟨HB5.out, rfl⟩
    · go_simp
      refine hK.out _ _ ⟨bk_below HBK1.out (bel1 hbn2 (.cells #[.int .i64 0, .bool false, .int .i64 0, .string ⟨#[]⟩, .slice none 0 0] 38)), (bel1 hbn2 (.cells #[.int .i64 0, .bool false, .int .i64 0, .string ⟨#[]⟩, .slice none 0 0] 38))⟩ (fun hHeld2 => ?_)
      clear hK K hHeld
      have hHeld := hHeld2
      clear hHeld2
      try simp only [Act.put, List.setIfInBounds_toArray, List.set_cons_zero, List.set_cons_succ]
      refine wpAnyH_ready (rs := [4]) (by kernel_rfl) (by simp) ?_
      refine AllReadyH.cons (o := { dst := some 12, op := Op.call { callee := Callee.value (Operand.func 19), args := #[Operand.tmp 11], argTypes := #[30] }, type := 38, pos := "msg.go:266", after := #[{ on := 3, ground := Ground.data }, { on := 2, ground := Ground.chain }], guard := none }) rfl (fun K hK => ?_) AllReadyH.nil
      go_simp
      (go_at_call 19)
      refine (HOP.out _ (HB1.out.trans (Below.mono (bel1 hbn2 (.cells #[.int .i64 0, .bool false, .int .i64 0, .string ⟨#[]⟩, .slice none 0 0] 38)) HB1.out.size))).mono ?_
      rintro e w3 ⟨hb3, cs3, rfl, ht3⟩
      obtain ⟨y0, y1, y2, y3, yA, yn, yc, rfl⟩ := tlAt_form ht3
      have hbn3 := bel_step (W := (w2.alloc (.cells #[.int .i64 0, .bool false, .int .i64 0, .string ⟨#[]⟩, .slice none 0 0] 38))) (bel1 hbn2 (.cells #[.int .i64 0, .bool false, .int .i64 0, .string ⟨#[]⟩, .slice none 0 0] 38)) hb3
      have h23 : Below w2.heap.size w2 w3 := bel_step (W := (w2.alloc (.cells #[.int .i64 0, .bool false, .int .i64 0, .string ⟨#[]⟩, .slice none 0 0] 38))) (bel1 (Below.refl _ _) _) hb3
      have hz3 : Bk w3 w2.heap.size 38 #[.int .i64 0, .bool false, .int .i64 0, .string ⟨#[]⟩, .slice none 0 0] := bk_below (w := (w2.alloc (.cells #[.int .i64 0, .bool false, .int .i64 0, .string ⟨#[]⟩, .slice none 0 0] 38))) (Bk.new w2 38 #[.int .i64 0, .bool false, .int .i64 0, .string ⟨#[]⟩, .slice none 0 0]) hb3
      go_wp2_with fail
      refine hK.out _ _ ⟨bk_below HBK1.out hbn3, hbn3⟩ (fun hHeld2 => ?_)
      clear hK K hHeld
      have hHeld := hHeld2
      clear hHeld2
      try simp only [Act.put, List.setIfInBounds_toArray, List.set_cons_zero, List.set_cons_succ]
      refine wpAnyH_ready (rs := [5]) (by kernel_rfl) (by simp) ?_
      refine AllReadyH.cons (o := { dst := some 13, op := Op.buildSlice 36 2 #[(0, Operand.tmp 10), (1, Operand.tmp 12)], type := 36, pos := "msg.go:266", after := #[{ on := 2, ground := Ground.data }, { on := 4, ground := Ground.data }], guard := none }) rfl (fun K hK => ?_) AllReadyH.nil
      go_simp
      refine hK.out _ _ ⟨bk_below HBK1.out (bel1 hbn3 (.cells #[.int .i64 x0, .bool x1, .int .i64 x2, .string x3, .slice xA xn xc, .int .i64 y0, .bool y1, .int .i64 y2, .string y3, .slice yA yn yc] 38)), (bel1 hbn3 (.cells #[.int .i64 x0, .bool x1, .int .i64 x2, .string x3, .slice xA xn xc, .int .i64 y0, .bool y1, .int .i64 y2, .string y3, .slice yA yn yc] 38))⟩ (fun hHeld2 => ?_)
      clear hK K hHeld
      have hHeld := hHeld2
      clear hHeld2
      try simp only [Act.put, List.setIfInBounds_toArray, List.set_cons_zero, List.set_cons_succ]
      refine wpAnyH_ready (rs := [6]) (by kernel_rfl) (by simp) ?_
      refine AllReadyH.cons (o := { dst := some 14, op := Op.call { callee := Callee.value (Operand.func 17), args := #[Operand.tmp 13], argTypes := #[36] }, type := 38, pos := "msg.go:266", after := #[{ on := 5, ground := Ground.data }, { on := 4, ground := Ground.chain }], guard := none }) rfl (fun K hK => ?_) AllReadyH.nil
      go_simp
      (go_at_call 17)
      refine (list_t _ _ _ _).mono ?_
      rintro e w4 ⟨rfl, hb4⟩
      have hsl4 : Bk w4 w3.heap.size 38 #[.int .i64 x0, .bool x1, .int .i64 x2, .string x3, .slice xA xn xc, .int .i64 y0, .bool y1, .int .i64 y2, .string y3, .slice yA yn yc] := bk_below (w := (w3.alloc (.cells #[.int .i64 x0, .bool x1, .int .i64 x2, .string x3, .slice xA xn xc, .int .i64 y0, .bool y1, .int .i64 y2, .string y3, .slice yA yn yc] 38))) (Bk.new w3 38 #[.int .i64 x0, .bool x1, .int .i64 x2, .string x3, .slice xA xn xc, .int .i64 y0, .bool y1, .int .i64 y2, .string y3, .slice yA yn yc]) hb4
      have h34 : Below w3.heap.size w3 w4 := bel_step (W := (w3.alloc (.cells #[.int .i64 x0, .bool x1, .int .i64 x2, .string x3, .slice xA xn xc, .int .i64 y0, .bool y1, .int .i64 y2, .string y3, .slice yA yn yc] 38))) (bel1 (Below.refl _ _) _) hb4
      have hz4 : Bk w4 w2.heap.size 38 #[.int .i64 0, .bool false, .int .i64 0, .string ⟨#[]⟩, .slice none 0 0] := bk_below (w := (w3.alloc (.cells #[.int .i64 x0, .bool x1, .int .i64 x2, .string x3, .slice xA xn xc, .int .i64 y0, .bool y1, .int .i64 y2, .string y3, .slice yA yn yc] 38))) (Bk.alloc hz3 (.cells #[.int .i64 x0, .bool x1, .int .i64 x2, .string x3, .slice xA xn xc, .int .i64 y0, .bool y1, .int .i64 y2, .string y3, .slice yA yn yc] 38)) hb4
      obtain ⟨z0, z1, z2, z3, z4⟩ := hz4.five
      have g0 := hz4.frozen 0
      have g1 := hz4.frozen 1
      have g2 := hz4.frozen 2
      have g3 := hz4.frozen 3
      have g4 := hz4.frozen 4
      have gl := hz4.lt
      have hbn4 := bel_step (W := (w3.alloc (.cells #[.int .i64 x0, .bool x1, .int .i64 x2, .string x3, .slice xA xn xc, .int .i64 y0, .bool y1, .int .i64 y2, .string y3, .slice yA yn yc] 38))) (bel1 hbn3 (.cells #[.int .i64 x0, .bool x1, .int .i64 x2, .string x3, .slice xA xn xc, .int .i64 y0, .bool y1, .int .i64 y2, .string y3, .slice yA yn yc] 38)) hb4
      have hk2 : TlAt w4 (fun x => x ≠ w2.heap.size) (tnum 2 id) _ := TlAt.below h34 _ _ (TlAt.below h23 _ _ (TlAt.keep (T := fun x => x ≠ w2.heap.size) (Nat.le_refl _) (fun _ _ _ => rfl) (fun x hx hlt => by have hx : w1.drew.heap.size ≤ x := hx; (try simp at hx); show x ≠ _; have := h23.size; have := h34.size; have := hz3.lt; omega) _ _ ht2))
      have hk3 : TlAt w4 (fun x => x ≠ w2.heap.size) t _ := TlAt.below h34 _ _ (TlAt.keep (T := fun x => x ≠ w2.heap.size) (Nat.le_refl _) (fun _ _ _ => rfl) (fun x hx hlt => by have hx : (w2.alloc (.cells #[.int .i64 0, .bool false, .int .i64 0, .string ⟨#[]⟩, .slice none 0 0] 38)).heap.size ≤ x := hx; (try simp at hx); show x ≠ _; have := h23.size; have := h34.size; have := hz3.lt; omega) _ _ ht3)
      have hsb : w3.heap.size ≠ w2.heap.size := by have := h23.size; have := h34.size; have := hz3.lt; have := hsl4.lt; omega
      have HTT := Lib.hid (enc_two (S := fun x => x ≠ w2.heap.size) hsl4 hsb hk2 hk3)
      go_wp2_with fail
      refine hK.out _ _ ⟨bk_below HBK1.out hbn4, hbn4⟩ (fun hHeld2 => ?_)
      clear hK K hHeld
      have hHeld := hHeld2
      clear hHeld2
      try simp only [Act.put, List.setIfInBounds_toArray, List.set_cons_zero, List.set_cons_succ]
      refine wpAnyH_ready (rs := [8]) (by kernel_rfl) (by simp) ?_
      refine AllReadyH.cons (o := { dst := none, op := Op.store 38 (Operand.tmp 4) (Operand.tmp 14), type := 0, pos := "msg.go:266", after := #[{ on := 7, ground := Ground.data }, { on := 6, ground := Ground.data }, { on := 6, ground := Ground.chain }, { on := 0, ground := Ground.phase }, { on := 1, ground := Ground.phase }, { on := 2, ground := Ground.phase }, { on := 3, ground := Ground.phase }, { on := 4, ground := Ground.phase }, { on := 5, ground := Ground.phase }, { on := 6, ground := Ground.phase }, { on := 7, ground := Ground.phase }], guard := none }) rfl (fun K hK => ?_) AllReadyH.nil
      go_simp
      have hbF := (bel5 (b := w2.heap.size) hbn4 (by have := hbn2.size; have := hbn3.size; have := hbn4.size; omega) (.int .i64 0) (.bool true) (.int .i64 16) (.string ⟨#[]⟩) (.slice (some ⟨w3.heap.size, 0, none⟩) 2 2))
      refine hK.out _ _ ⟨bk_below HBK1.out hbF, hbF⟩ (fun hHeld2 => ?_)
      clear hK K hHeld
      have hHeld := hHeld2
      clear hHeld2
      try simp only [Act.put, List.setIfInBounds_toArray, List.set_cons_zero, List.set_cons_succ]
      refine wpAnyH_done (by kernel_rfl) ?_ _
      have hoF : Off [w2.heap.size] w4 _ := (((((Off.refl [w2.heap.size] w4).setCell (p := ⟨w2.heap.size, 0, none⟩) (.inl (by simp)) (.int .i64 0)).setCell (p := ⟨w2.heap.size, 1, none⟩) (.inl (by simp)) (.bool true)).setCell (p := ⟨w2.heap.size, 2, none⟩) (.inl (by simp)) (.int .i64 16)).setCell (p := ⟨w2.heap.size, 3, none⟩) (.inl (by simp)) (.string ⟨#[]⟩)).setCell (p := ⟨w2.heap.size, 4, none⟩) (.inl (by simp)) (.slice (some ⟨w3.heap.size, 0, none⟩) 2 2)
      have HTF := Lib.hid (TlAt.keep (T := fun _ => True) hoF.size (fun x hx hlt => hoF.block x hlt (by have hx : x ≠ w2.heap.size := hx; simpa using hx)) (fun _ _ _ => trivial) _ _ HTT.out)
      have hlw1 := HBK1.out.lt
      have hsz2 := hbn2.size
      have hsz3 := hbn3.size
      have hsz4 := hbn4.size
      have hnz : ¬ (w2.heap.size = w.heap.size) := by omega
      have hnz2 : ¬ (w.heap.size = w2.heap.size) := by omega
      have q30 : w4.cell? ⟨w.heap.size, 30, none⟩ = some (.slice oA 0 oc) := ((bk_below HBK1.out hbn4).cell 30).trans c30
      have HBF := Lib.hid (HB1.out.trans (hbF.mono HB1.out.size))
      have hlw4 : w.heap.size < w4.heap.size := by omega
      clear hHeld hoF hbF hsl4 hk2 hk3 hsb HTT h23 h34 ht2 ht3
      go_wp2_with fail
      (go_at_call 22)
      refine (encodeTop_any _ _ _ _ HTF.out).mono ?_
      rintro e w5 ⟨hb5, rfl⟩
      have HB5 := Lib.hid (HBF.out.trans (hb5.mono HBF.out.size))
      clear hb5 HTF
      go_wp2_with fail
      go_ret2
      exact ⟨HB5.out, rfl⟩
  · go_simp
    refine hK.out _ _ ⟨bk_below HBK1.out (bel1 HBR.out (.cells #[.int .i64 0, .bool false, .int .i64 0, .string ⟨#[]⟩, .slice none 0 0] 38)), (bel1 HBR.out (.cells #[.int .i64 0, .bool false, .int .i64 0, .string ⟨#[]⟩, .slice none 0 0] 38))⟩ (fun hHeld2 => ?_)
    clear hK K hHeld
    have hHeld := hHeld2
    clear hHeld2
    try simp only [Act.put, List.setIfInBounds_toArray, List.set_cons_zero, List.set_cons_succ]
    refine wpAnyH_ready (rs := [2]) (by kernel_rfl) (by simp) ?_
    refine AllReadyH.cons (o := { dst := some 10, op := Op.call { callee := Callee.value (Operand.func 18), args := #[Operand.const (Value.int IntKind.i64 0), Operand.const (Value.int IntKind.i64 2), Operand.tmp 9], argTypes := #[3, 3, 3] }, type := 38, pos := "msg.go:266", after := #[{ on := 1, ground := Ground.data }], guard := none }) rfl (fun K hK => ?_) AllReadyH.nil
    go_simp
    (go_at_call 18)
    refine (HNM.out _).mono ?_
    rintro e w2 ⟨hb2, cs2, rfl, ht2⟩
    obtain ⟨x0, x1, x2, x3, xA, xn, xc, rfl⟩ := tlAt_form ht2
    have hbn2 := bel_step (W := (w1.drew.alloc (.cells #[.int .i64 0, .bool false, .int .i64 0, .string ⟨#[]⟩, .slice none 0 0] 38))) (bel1 HBR.out (.cells #[.int .i64 0, .bool false, .int .i64 0, .string ⟨#[]⟩, .slice none 0 0] 38)) hb2
    have hz2 : Bk w2 w1.heap.size 38 #[.int .i64 0, .bool false, .int .i64 0, .string ⟨#[]⟩, .slice none 0 0] := bk_below (w := (w1.drew.alloc (.cells #[.int .i64 0, .bool false, .int .i64 0, .string ⟨#[]⟩, .slice none 0 0] 38))) (Bk.new w1.drew 38 #[.int .i64 0, .bool false, .int .i64 0, .string ⟨#[]⟩, .slice none 0 0]) hb2
    go_wp2_with fail
    refine hK.out _ _ ⟨bk_below HBK1.out hbn2, hbn2⟩ (fun hHeld2 => ?_)
    clear hK K hHeld
    have hHeld := hHeld2
    clear hHeld2
    try simp only [Act.put, List.setIfInBounds_toArray, List.set_cons_zero, List.set_cons_succ]
    refine wpAnyH_ready (rs := [4]) (by kernel_rfl) (by simp) ?_
    refine AllReadyH.cons (o := { dst := some 12, op := Op.call { callee := Callee.value (Operand.func 19), args := #[Operand.tmp 11], argTypes := #[30] }, type := 38, pos := "msg.go:266", after := #[{ on := 3, ground := Ground.data }, { on := 2, ground := Ground.chain }], guard := none }) rfl (fun K hK => ?_) AllReadyH.nil
    go_simp
    (go_at_call 19)
    refine (HOP.out _ (HB1.out.trans (Below.mono hbn2 HB1.out.size))).mono ?_
    rintro e w3 ⟨hb3, cs3, rfl, ht3⟩
    obtain ⟨y0, y1, y2, y3, yA, yn, yc, rfl⟩ := tlAt_form ht3
    have hbn3 := bel_step (W := w2) hbn2 hb3
    have h23 : Below w2.heap.size w2 w3 := hb3
    have hz3 : Bk w3 w1.heap.size 38 #[.int .i64 0, .bool false, .int .i64 0, .string ⟨#[]⟩, .slice none 0 0] := bk_below (w := w2) hz2 hb3
    go_wp2_with fail
    refine hK.out _ _ ⟨bk_below HBK1.out hbn3, hbn3⟩ (fun hHeld2 => ?_)
    clear hK K hHeld
    have hHeld := hHeld2
    clear hHeld2
    try simp only [Act.put, List.setIfInBounds_toArray, List.set_cons_zero, List.set_cons_succ]
    refine wpAnyH_ready (rs := [5]) (by kernel_rfl) (by simp) ?_
    refine AllReadyH.cons (o := { dst := some 13, op := Op.buildSlice 36 2 #[(0, Operand.tmp 10), (1, Operand.tmp 12)], type := 36, pos := "msg.go:266", after := #[{ on := 2, ground := Ground.data }, { on := 4, ground := Ground.data }], guard := none }) rfl (fun K hK => ?_) AllReadyH.nil
    go_simp
    refine hK.out _ _ ⟨bk_below HBK1.out (bel1 hbn3 (.cells #[.int .i64 x0, .bool x1, .int .i64 x2, .string x3, .slice xA xn xc, .int .i64 y0, .bool y1, .int .i64 y2, .string y3, .slice yA yn yc] 38)), (bel1 hbn3 (.cells #[.int .i64 x0, .bool x1, .int .i64 x2, .string x3, .slice xA xn xc, .int .i64 y0, .bool y1, .int .i64 y2, .string y3, .slice yA yn yc] 38))⟩ (fun hHeld2 => ?_)
    clear hK K hHeld
    have hHeld := hHeld2
    clear hHeld2
    try simp only [Act.put, List.setIfInBounds_toArray, List.set_cons_zero, List.set_cons_succ]
    refine wpAnyH_ready (rs := [6]) (by kernel_rfl) (by simp) ?_
    refine AllReadyH.cons (o := { dst := some 14, op := Op.call { callee := Callee.value (Operand.func 17), args := #[Operand.tmp 13], argTypes := #[36] }, type := 38, pos := "msg.go:266", after := #[{ on := 5, ground := Ground.data }, { on := 4, ground := Ground.chain }], guard := none }) rfl (fun K hK => ?_) AllReadyH.nil
    go_simp
    (go_at_call 17)
    refine (list_t _ _ _ _).mono ?_
    rintro e w4 ⟨rfl, hb4⟩
    have hsl4 : Bk w4 w3.heap.size 38 #[.int .i64 x0, .bool x1, .int .i64 x2, .string x3, .slice xA xn xc, .int .i64 y0, .bool y1, .int .i64 y2, .string y3, .slice yA yn yc] := bk_below (w := (w3.alloc (.cells #[.int .i64 x0, .bool x1, .int .i64 x2, .string x3, .slice xA xn xc, .int .i64 y0, .bool y1, .int .i64 y2, .string y3, .slice yA yn yc] 38))) (Bk.new w3 38 #[.int .i64 x0, .bool x1, .int .i64 x2, .string x3, .slice xA xn xc, .int .i64 y0, .bool y1, .int .i64 y2, .string y3, .slice yA yn yc]) hb4
    have h34 : Below w3.heap.size w3 w4 := bel_step (W := (w3.alloc (.cells #[.int .i64 x0, .bool x1, .int .i64 x2, .string x3, .slice xA xn xc, .int .i64 y0, .bool y1, .int .i64 y2, .string y3, .slice yA yn yc] 38))) (bel1 (Below.refl _ _) _) hb4
    have hz4 : Bk w4 w1.heap.size 38 #[.int .i64 0, .bool false, .int .i64 0, .string ⟨#[]⟩, .slice none 0 0] := bk_below (w := (w3.alloc (.cells #[.int .i64 x0, .bool x1, .int .i64 x2, .string x3, .slice xA xn xc, .int .i64 y0, .bool y1, .int .i64 y2, .string y3, .slice yA yn yc] 38))) (Bk.alloc hz3 (.cells #[.int .i64 x0, .bool x1, .int .i64 x2, .string x3, .slice xA xn xc, .int .i64 y0, .bool y1, .int .i64 y2, .string y3, .slice yA yn yc] 38)) hb4
    obtain ⟨z0, z1, z2, z3, z4⟩ := hz4.five
    have g0 := hz4.frozen 0
    have g1 := hz4.frozen 1
    have g2 := hz4.frozen 2
    have g3 := hz4.frozen 3
    have g4 := hz4.frozen 4
    have gl := hz4.lt
    have hbn4 := bel_step (W := (w3.alloc (.cells #[.int .i64 x0, .bool x1, .int .i64 x2, .string x3, .slice xA xn xc, .int .i64 y0, .bool y1, .int .i64 y2, .string y3, .slice yA yn yc] 38))) (bel1 hbn3 (.cells #[.int .i64 x0, .bool x1, .int .i64 x2, .string x3, .slice xA xn xc, .int .i64 y0, .bool y1, .int .i64 y2, .string y3, .slice yA yn yc] 38)) hb4
    have hk2 : TlAt w4 (fun x => x ≠ w1.heap.size) (tnum 2 id) _ := TlAt.below h34 _ _ (TlAt.below h23 _ _ (TlAt.keep (T := fun x => x ≠ w1.heap.size) (Nat.le_refl _) (fun _ _ _ => rfl) (fun x hx hlt => by have hx : (w1.drew.alloc (.cells #[.int .i64 0, .bool false, .int .i64 0, .string ⟨#[]⟩, .slice none 0 0] 38)).heap.size ≤ x := hx; (try simp at hx); show x ≠ _; have := h23.size; have := h34.size; have := hz2.lt; omega) _ _ ht2))
    have hk3 : TlAt w4 (fun x => x ≠ w1.heap.size) t _ := TlAt.below h34 _ _ (TlAt.keep (T := fun x => x ≠ w1.heap.size) (Nat.le_refl _) (fun _ _ _ => rfl) (fun x hx hlt => by have hx : w2.heap.size ≤ x := hx; (try simp at hx); show x ≠ _; have := h23.size; have := h34.size; have := hz2.lt; omega) _ _ ht3)
    have hsb : w3.heap.size ≠ w1.heap.size := by have := h23.size; have := h34.size; have := hz2.lt; have := hsl4.lt; omega
    have HTT := Lib.hid (enc_two (S := fun x => x ≠ w1.heap.size) hsl4 hsb hk2 hk3)
    go_wp2_with fail
    refine hK.out _ _ ⟨bk_below HBK1.out hbn4, hbn4⟩ (fun hHeld2 => ?_)
    clear hK K hHeld
    have hHeld := hHeld2
    clear hHeld2
    try simp only [Act.put, List.setIfInBounds_toArray, List.set_cons_zero, List.set_cons_succ]
    refine wpAnyH_ready (rs := [8]) (by kernel_rfl) (by simp) ?_
    refine AllReadyH.cons (o := { dst := none, op := Op.store 38 (Operand.tmp 4) (Operand.tmp 14), type := 0, pos := "msg.go:266", after := #[{ on := 7, ground := Ground.data }, { on := 6, ground := Ground.data }, { on := 6, ground := Ground.chain }, { on := 0, ground := Ground.phase }, { on := 1, ground := Ground.phase }, { on := 2, ground := Ground.phase }, { on := 3, ground := Ground.phase }, { on := 4, ground := Ground.phase }, { on := 5, ground := Ground.phase }, { on := 6, ground := Ground.phase }, { on := 7, ground := Ground.phase }], guard := none }) rfl (fun K hK => ?_) AllReadyH.nil
    go_simp
    have hbF := (bel5 (b := w1.heap.size) hbn4 (by have := hbn2.size; have := hbn3.size; have := hbn4.size; omega) (.int .i64 0) (.bool true) (.int .i64 16) (.string ⟨#[]⟩) (.slice (some ⟨w3.heap.size, 0, none⟩) 2 2))
    refine hK.out _ _ ⟨bk_below HBK1.out hbF, hbF⟩ (fun hHeld2 => ?_)
    clear hK K hHeld
    have hHeld := hHeld2
    clear hHeld2
    try simp only [Act.put, List.setIfInBounds_toArray, List.set_cons_zero, List.set_cons_succ]
    refine wpAnyH_done (by kernel_rfl) ?_ _
    have hoF : Off [w1.heap.size] w4 _ := (((((Off.refl [w1.heap.size] w4).setCell (p := ⟨w1.heap.size, 0, none⟩) (.inl (by simp)) (.int .i64 0)).setCell (p := ⟨w1.heap.size, 1, none⟩) (.inl (by simp)) (.bool true)).setCell (p := ⟨w1.heap.size, 2, none⟩) (.inl (by simp)) (.int .i64 16)).setCell (p := ⟨w1.heap.size, 3, none⟩) (.inl (by simp)) (.string ⟨#[]⟩)).setCell (p := ⟨w1.heap.size, 4, none⟩) (.inl (by simp)) (.slice (some ⟨w3.heap.size, 0, none⟩) 2 2)
    have HTF := Lib.hid (TlAt.keep (T := fun _ => True) hoF.size (fun x hx hlt => hoF.block x hlt (by have hx : x ≠ w1.heap.size := hx; simpa using hx)) (fun _ _ _ => trivial) _ _ HTT.out)
    have hlw1 := HBK1.out.lt
    have hsz2 := hbn2.size
    have hsz3 := hbn3.size
    have hsz4 := hbn4.size
    have hnz : ¬ (w1.heap.size = w.heap.size) := by omega
    have hnz2 : ¬ (w.heap.size = w1.heap.size) := by omega
    have q30 : w4.cell? ⟨w.heap.size, 30, none⟩ = some (.slice oA 0 oc) := ((bk_below HBK1.out hbn4).cell 30).trans c30
    have HBF := Lib.hid (HB1.out.trans (hbF.mono HB1.out.size))
    have hlw4 : w.heap.size < w4.heap.size := by omega
    clear hHeld hoF hbF hsl4 hk2 hk3 hsb HTT h23 h34 ht2 ht3
    go_wp2_with fail
    (go_at_call 22)
    refine (encodeTop_any _ _ _ _ HTF.out).mono ?_
    rintro e w5 ⟨hb5, rfl⟩
    have HB5 := Lib.hid (HBF.out.trans (hb5.mono HBF.out.size))
    clear hb5 HTF
    go_wp2_with fail
    go_ret2
    exact ⟨HB5.out, rfl⟩
end Go.Proofs.YtbiglfpikfjbpaaDoor

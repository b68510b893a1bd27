/- Merged by program: MsgDoes MsgCtlDo MsgFilDo MsgFilPart. -/
import Derived.Test.YtbiglfpikfjbpaaDoorMsgWB
/- The writer: what is done with each attribute, each change, each control. -/
namespace Go.Proofs.YtbiglfpikfjbpaaDoor
open Go.RowKit
set_option maxRecDepth 100000
set_option linter.unusedVariables false
set_option linter.unusedSimpArgs false
abbrev tz5 : Array Value := #[.int .i64 0, .bool false, .int .i64 0, .string ⟨#[]⟩, .slice none 0 0]
set_option maxHeartbeats 4000000 in
theorem attr_do (d : At) (c : List Value) (S : Nat → Prop) (w : World) (h : AttrAt w S d c) (hn : d.2.length ≤ 1000000) : Calls Tryd.prog 60 #[.agg c.toArray] w (RetT (tat d) w) := by
  obtain ⟨nm, ss⟩ := d
  obtain ⟨⟨qA, qn, qc⟩, rfl, hz, hss⟩ := h
  simp only at hz hss hn ⊢
  have hsl := srow_sl hss
  have hfit := srow_fit hss
  obtain rfl : qn = ss.length := hss.1
  have HC := Lib.hid (fun W (hb : Below w.heap.size w W) => attribute_t nm qA qc ss W hz (hsl.off (Off.of_below hb []) (by simp)) hn hfit)
  clear hss hsl hfit hz
  go_enter Tryd.func60, Tryd.ntmps60
  go_wp2_with (first
    | (go_at_call 61; refine (HC.out _ (((Below.refl _ w).alloc (Nat.le_refl _) _).alloc (by simp) _)).mono ?_; rintro e w2 ⟨hb2, cs2, rfl, ht2⟩; obtain ⟨x0, x1, x2, x3, xA, xn, xc, rfl⟩ := tlAt_form ht2; have HZ2 := Lib.hid (bk_below (Bk.new (w.alloc (.cells #[.string nm, .slice qA ss.length qc] 52)) 38 tz5) hb2); have HB2 := Lib.hid hb2; have HT2 := Lib.hid ht2; clear hb2 ht2)
    | (refine wpList_store_wide rfl 38 (.tmp 2) (.tmp 7) rfl (w.heap.size + 1) rfl #[.int .i64 x0, .bool x1, .int .i64 x2, .string x3, .slice xA xn xc] rfl 38 tz5 (by have := HZ2.out; simpa using this) rfl (by kernel_rfl) (by simp [Value.oneCell']) (fun w5 hbk5 hof5 => ?_); have HOF5 := Lib.hid hof5; have r0 := hbk5.cell 0; have r1 := hbk5.cell 1; have r2 := hbk5.cell 2; have r3 := hbk5.cell 3; have r4 := hbk5.cell 4)
    | fail)
  have h02 := (((Below.refl w.heap.size w).alloc (Nat.le_refl _) (.cells #[.string nm, .slice qA ss.length qc] 52)).alloc (by simp) (.cells tz5 38)).trans (HB2.out.mono (by simp; omega))
  refine bodyPost_ret (v := .agg #[.int .i64 x0, .bool x1, .int .i64 x2, .string x3, .slice xA xn xc]) (by simp [results, Tryd.results60, go_sem, r0, r1, r2, r3, r4]) rfl ⟨h02.trans (HOF5.out.below (B := w.heap.size) h02.size (by simp)), _, rfl, TlAt.keep HOF5.out.size (fun x hx hlt => HOF5.out.block x hlt ?_) (fun x hx _ => ?_) _ _ HT2.out⟩
  · have hx : ((w.alloc _).alloc _).heap.size ≤ x := hx
    simp at hx ⊢
    omega
  · have hx : ((w.alloc _).alloc _).heap.size ≤ x := hx
    simp at hx
    show w.heap.size ≤ x
    omega
-- MOD
theorem set5 (W : World) {g k : Nat} {T U : TypeId} {cs : Array Value} {v0 v1 v2 v3 v4 : Value} {B : Nat} {w : World} (hg : Bk W g T #[v0, v1, v2, v3, v4]) (hk : Bk W k U cs) (hne : k ≠ g) (hb : Below B w W) (hB : B ≤ g) (u0 u1 u2 u3 u4 : Value) :
    Bk (((((W.setCell ⟨g, 0, none⟩ u0).setCell ⟨g, 1, none⟩ u1).setCell ⟨g, 2, none⟩ u2).setCell ⟨g, 3, none⟩ u3).setCell ⟨g, 4, none⟩ u4) g T #[u0, u1, u2, u3, u4] ∧
    Bk (((((W.setCell ⟨g, 0, none⟩ u0).setCell ⟨g, 1, none⟩ u1).setCell ⟨g, 2, none⟩ u2).setCell ⟨g, 3, none⟩ u3).setCell ⟨g, 4, none⟩ u4) k U cs ∧
    Below B w (((((W.setCell ⟨g, 0, none⟩ u0).setCell ⟨g, 1, none⟩ u1).setCell ⟨g, 2, none⟩ u2).setCell ⟨g, 3, none⟩ u3).setCell ⟨g, 4, none⟩ u4) ∧
    Off [g] W (((((W.setCell ⟨g, 0, none⟩ u0).setCell ⟨g, 1, none⟩ u1).setCell ⟨g, 2, none⟩ u2).setCell ⟨g, 3, none⟩ u3).setCell ⟨g, 4, none⟩ u4) := by
  refine ⟨?_, ?_, ?_, ?_⟩
  · have h := ((((hg.put 0 u0).put 1 u1).put 2 u2).put 3 u3).put 4 u4
    simpa using h
  · exact ((((hk.far (p := ⟨g, 0, none⟩) hne _).far (p := ⟨g, 1, none⟩) hne _).far (p := ⟨g, 2, none⟩) hne _).far (p := ⟨g, 3, none⟩) hne _).far (p := ⟨g, 4, none⟩) hne _
  · exact ((((hb.setCell hB _).setCell hB _).setCell hB _).setCell hB _).setCell hB _
  · exact (((((Off.refl [g] W).setCell (p := ⟨g, 0, none⟩) (.inl (by simp)) _).setCell (p := ⟨g, 1, none⟩) (.inl (by simp)) _).setCell (p := ⟨g, 2, none⟩) (.inl (by simp)) _).setCell (p := ⟨g, 3, none⟩) (.inl (by simp)) _).setCell (p := ⟨g, 4, none⟩) (.inl (by simp)) _
set_option maxHeartbeats 8000000 in
theorem mod_do (d : Md) (c : List Value) (S : Nat → Prop) (w : World) (h : ModAt w S d c) (hn : d.2.2.length ≤ 1000000) (hk : in64 d.1) : Calls Tryd.prog 63 #[.agg c.toArray] w (RetT (tmod d) w) := by
  obtain ⟨k, nm, ss⟩ := d
  obtain ⟨⟨qA, qn, qc⟩, rfl, ⟨-, hz⟩, hss⟩ := h
  simp only at hz hss hn hk ⊢
  have hsl := srow_sl hss
  have hfit := srow_fit hss
  obtain rfl : qn = ss.length := hss.1
  obtain ⟨wa, hwa⟩ : ∃ W, W = w.alloc (.cells #[.int .i64 k, .string nm, .slice qA ss.length qc] 54) := ⟨_, rfl⟩
  have hsa : wa.heap.size = w.heap.size + 1 := by rw [hwa]; simp
  have hba : Below w.heap.size w wa := by rw [hwa]; exact (Below.refl w.heap.size w).alloc (Nat.le_refl _) _
  have hka : Bk wa w.heap.size 54 #[.int .i64 k, .string nm, .slice qA ss.length qc] := by rw [hwa]; exact Bk.new w _ _
  obtain ⟨wc, hwc⟩ : ∃ W, W = wa.alloc (.cells tz5 38) := ⟨_, rfl⟩
  have hsc : wc.heap.size = w.heap.size + 2 := by rw [hwc]; simp [hsa]
  have hbx : Below w.heap.size w wc := by rw [hwc]; exact hba.alloc hba.size _
  have hkx : Bk wc w.heap.size 54 #[.int .i64 k, .string nm, .slice qA ss.length qc] := by rw [hwc]; exact hka.alloc _
  have hgx : Bk wc (w.heap.size + 1) 38 tz5 := by rw [hwc, ← hsa]; exact Bk.new wa _ _
  have HBX := Lib.hid hbx
  have HKX := Lib.hid hkx
  have HGX := Lib.hid hgx
  have HSC := Lib.hid hsc
  have HN := Lib.hid fun (W : World) => num_t 10 k rfl W hk.1 hk.2
  have HA := Lib.hid fun (W : World) (hb : Below wc.heap.size wc W) => attribute_t nm qA qc ss W hz (hsl.off (Off.of_below ((hbx.trans (hb.mono hbx.size))) []) (by simp)) hn hfit
  have HBR := Lib.hid (Below.refl wc.heap.size wc).drew
  have HKF := Lib.hid fun (W : World) (hk : Bk W w.heap.size 54 #[.int .i64 k, .string nm, .slice qA ss.length qc]) (hb : Below w.heap.size w W) => (show W.cell? ⟨w.heap.size, 0, none⟩ = some (.int .i64 k) ∧ W.cell? ⟨w.heap.size, 1, none⟩ = some (.string nm) ∧ W.cell? ⟨w.heap.size, 2, none⟩ = some (.slice qA ss.length qc) ∧ Below w.heap.size w W from
    ⟨hk.cell 0, hk.cell 1, hk.cell 2, hb⟩)
  have HKS := Lib.hid fun (W : World) (hb : Below wc.heap.size wc W) => HKF.out W (bk_below hkx hb) (hbx.trans (hb.mono hbx.size))
  have HWC := Lib.hid (show w.heap.size + 1 = wa.heap.size ∧ wc = (w.alloc (.cells #[.int .i64 k, .string nm, .slice qA ss.length qc] 54)).alloc (.cells tz5 38) from ⟨hsa.symm, by rw [hwc, hwa]⟩)
  clear hwc hwa hsa hba hka hbx hkx hgx hsc hss hsl hfit hz
  go_enter Tryd.func63, Tryd.ntmps63
  go_wp2_with fail
  rw [← HWC.out.2]
  go_region_held3 (fun W => W.cell? ⟨w.heap.size, 0, none⟩ = some (.int .i64 k) ∧ W.cell? ⟨w.heap.size, 1, none⟩ = some (.string nm) ∧ W.cell? ⟨w.heap.size, 2, none⟩ = some (.slice qA ss.length qc) ∧ Below w.heap.size w W)
    (first | (with_reducible exact HSF) | (with_reducible exact HKS.out _ HBR.out) | (with_reducible exact HKS.out _ (by assumption)) | (with_reducible exact HKS.out _ (bel1 (by assumption) _)))
    (first
      | (go_at_call 18; refine (HN.out _).mono ?_; rintro e w1 ⟨hb1, cs1, rfl, ht1⟩; obtain ⟨a10, a11, a12, a13, a1A, a1n, a1c, rfl⟩ := tlAt_form ht1; have hn1 := bel_step HBR.out hb1)
      | (go_at_call 61; refine (HA.out _ hn1).mono ?_; rintro e w2 ⟨hb2, cs2, rfl, ht2⟩; obtain ⟨a20, a21, a22, a23, a2A, a2n, a2c, rfl⟩ := tlAt_form ht2; have hn2 := bel_step hn1 hb2)
      | (go_at_call 17; refine (list_t _ _ _ _).mono ?_; rintro e w3 ⟨rfl, hb3⟩; have hn3 := bel_step (bel1 hn2 _) hb3; have hg3 := bk_below HGX.out hn3; have hf5 := hg3.five; have z0 := hf5.1; have z1 := hf5.2.1; have z2 := hf5.2.2.1; have z3 := hf5.2.2.2.1; have z4 := hf5.2.2.2.2; have g0 := hg3.frozen 0; have g1 := hg3.frozen 1; have g2 := hg3.frozen 2; have g3 := hg3.frozen 3; have g4 := hg3.frozen 4; have hsf := set5 w3 hg3 (bk_below HKX.out hn3) (by omega) (HBX.out.trans (hn3.mono HBX.out.size)) (by omega) (.int .i64 0) (.bool true) (.int .i64 16) (.string ⟨#[]⟩) (.slice (some ⟨w2.heap.size, 0, none⟩) 2 2); have HSF := HKF.out _ hsf.2.1 hsf.2.2.1)
      | fail)
  all_goals
    have r0 := hsf.1.cell 0
    have r1 := hsf.1.cell 1
    have r2 := hsf.1.cell 2
    have r3 := hsf.1.cell 3
    have r4 := hsf.1.cell 4
    have hs1 := hn1.size
    have hrow := lit_row (w8 := w2) (B := wc.heap.size) (n := 2) (ts := [tnum 10 k, tattr nm ss]) [[.int .i64 a10, .bool a11, .int .i64 a12, .string a13, .slice a1A a1n a1c], [.int .i64 a20, .bool a21, .int .i64 a22, .string a23, .slice a2A a2n a2c]] #[.int .i64 a10, .bool a11, .int .i64 a12, .string a13, .slice a1A a1n a1c, .int .i64 a20, .bool a21, .int .i64 a22, .string a23, .slice a2A a2n a2c] hn2.size rfl
      ⟨⟨rfl, TlAt.up ht1 hb2 (Nat.le_refl _)⟩, ⟨rfl, TlAt.up ht2 (Below.refl _ _) hs1⟩, trivial⟩ rfl (by omega)
    have htt := TlAt.up (B := wc.heap.size) (kids_at 0 16 true ⟨#[]⟩ hrow rfl rfl (Nat.zero_le _)) hb3 (Nat.le_refl _)
    have HTT := Lib.hid (TlAt.keep (T := fun x => w.heap.size ≤ x) hsf.2.2.2.size (fun x hx hlt => hsf.2.2.2.block x hlt (by have hx : wc.heap.size ≤ x := hx; have := HSC.out; simp; omega)) (fun x hx _ => by have hx : wc.heap.size ≤ x := hx; have := HSC.out; show w.heap.size ≤ x; omega) _ _ htt)
    have HBF := Lib.hid hsf.2.2.1
    go_wp2_with fail
    exact bodyPost_ret (v := .agg #[.int .i64 0, .bool true, .int .i64 16, .string ⟨#[]⟩, .slice (some ⟨w2.heap.size, 0, none⟩) 2 2]) (by simp [results, Tryd.results63, go_sem, r0, r1, r2, r3, r4]) rfl ⟨HBF.out, _, rfl, HTT.out⟩
end Go.Proofs.YtbiglfpikfjbpaaDoor
/- The writer: a control's value. -/
namespace Go.Proofs.YtbiglfpikfjbpaaDoor
open Go.RowKit
set_option maxRecDepth 100000
set_option linter.unusedVariables false
set_option linter.unusedSimpArgs false
def LeafC (t : Tl) (c : List Value) : Prop := c.length = 5 ∧ ∀ W S, TlAt W S t c.toArray
theorem All2.app {α β : Type} {R : α → β → Prop} {a : α} {b : β} (hr : R a b) : ∀ {l : List α} {k : List β}, All2 R l k → All2 R (l ++ [a]) (k ++ [b])
  | [], [], _ => ⟨hr, trivial⟩
  | _ :: _, _ :: _, h => ⟨h.1, h.2.app hr⟩
  | [], _ :: _, h => h.elim
  | _ :: _, [], h => h.elim
/-- A value under way: its block g, its row of leaves, and two other blocks. -/
def NodeC (w wx : World) (T : TypeId) (cs : Array Value) (c tag : Int) (g bo n cap : Nat) (css : List (List Value)) (ts : List Tl) : Prop :=
  Below w.heap.size w wx ∧ Bk wx w.heap.size T cs ∧ Bk wx (w.heap.size + 1) 38 tz5 ∧ Bk wx g 38 #[.int .i64 c, .bool true, .int .i64 tag, .string ⟨#[]⟩, .slice (some ⟨bo, 0, none⟩) n cap] ∧
    (w.heap.size + 2 ≤ g ∧ bo ≠ g ∧ w.heap.size + 2 ≤ bo ∧ n ≤ 50) ∧ wx.ownsRow w.heap.size 38 5 (.slice (some ⟨bo, 0, none⟩) n cap) n css.flatten ∧ All2 LeafC ts css ∧ n = ts.length
theorem NodeC.push {w wx w6 w7 : World} {T : TypeId} {cs : Array Value} {c tag : Int} {g bo n cap gg cap7 : Nat} {css : List (List Value)} {ts : List Tl} {t : Tl} {r : List Value} {o : Obj} (h : NodeC w wx T cs c tag g bo n cap css ts) (hb6 : Below wx.heap.size wx.drew w6) (hr : LeafC t r) (hn : n ≤ 49)
    (hown7 : w7.ownsRow w.heap.size 38 5 (.slice (some ⟨gg, 0, none⟩) (n + 1) cap7) (n + 1) (css.flatten ++ r)) (hgr : (w6.alloc o).grownBy w7 (Value.slice (some ⟨bo, 0, none⟩) n cap).ownBlock) (hat : (Value.slice (some ⟨bo, 0, none⟩) n cap).ownBlock = some gg ∨ gg = w6.heap.size + 1) :
    NodeC w (w7.setCell ⟨g, 4, none⟩ (.slice (some ⟨gg, 0, none⟩) (n + 1) cap7)) T cs c tag g gg (n + 1) cap7 (css ++ [r]) (ts ++ [t]) := by
  obtain ⟨h1, h2, h3, h4, ⟨h5, h6, h7, h7'⟩, h8, h9, h10⟩ := h
  have hb := h1.drew.trans (hb6.mono h1.size)
  have hg6 := bk_below h4.drew hb6
  have hk6 := bk_below h2.drew hb6
  have hz6 := bk_below h3.drew hb6
  have hN := node_push (bo := bo) hb (Nat.le_refl _) hg6 hk6 (by omega) rfl h6 (by omega) (by omega) (by omega) hown7 hgr hat
  have hN2 := node_push (bo := bo) hb (Nat.le_refl _) hg6 hz6 (by omega) rfl h6 (by omega) (by omega) (by omega) hown7 hgr hat
  have hgl := hg6.lt
  have hgg : gg ≠ g ∧ w.heap.size + 2 ≤ gg := by
    rcases hat with h | h
    · have h : some bo = some gg := h
      injection h with h
      omega
    · omega
  exact ⟨hN.1, hN.2.2.1, hN2.2.2.1, hN.2.1, ⟨h5, hgg.1, hgg.2, by omega⟩, by simpa using hN.2.2.2, h9.app hr, by simp [h10]⟩
theorem own_base {w : World} {B B' bo n cap k : Nat} {E : TypeId} {xs : List Value} (h : w.ownsRow B E k (.slice (some ⟨bo, 0, none⟩) n cap) n xs) (hB : B' ≤ bo) : w.ownsRow B' E k (.slice (some ⟨bo, 0, none⟩) n cap) n xs := by
  obtain ⟨h1, h2⟩ := h
  refine ⟨h1, ?_⟩
  rcases h2 with ⟨h, -⟩ | ⟨g, c, cur, hv, hb, r⟩
  · cases h
  · refine .inr ⟨g, c, cur, hv, ?_, r⟩
    injection hv with hv _ _
    injection hv with hv
    injection hv with hv
    omega
/-- The value as it is. -/
theorem NodeC.tree {w wx : World} {T : TypeId} {cs : Array Value} {c tag : Int} {g bo n cap : Nat} {css : List (List Value)} {ts : List Tl} (h : NodeC w wx T cs c tag g bo n cap css ts) (hc : (Lit.int .i64 c).wf = true) (ht : (Lit.int .i64 tag).wf = true) :
    TlAt wx (fun x => w.heap.size + 2 ≤ x) (.mk c true tag ⟨#[]⟩ ts) #[.int .i64 c, .bool true, .int .i64 tag, .string ⟨#[]⟩, .slice (some ⟨bo, 0, none⟩) n cap] := by
  obtain ⟨h1, h2, h3, h4, h5, h8, h9, rfl⟩ := h
  exact grow_at c tag (GRow.leaves (own_base h8 h5.2.2.1) h9.len.symm (fun c hx => h9.right (P := fun c => c.length = 5) (fun _ _ h => h.1) c hx) (fun i t c hi hx => (h9.get i t c hi hx).2)) hc ht
/-- The value is laid into the result's block. -/
theorem NodeC.done {w wx w5 : World} {T : TypeId} {cs : Array Value} {c tag : Int} {g bo n cap : Nat} {css : List (List Value)} {ts : List Tl} {t : Tl} (h : NodeC w wx T cs c tag g bo n cap css ts) (hc : (Lit.int .i64 c).wf = true) (ht : (Lit.int .i64 tag).wf = true) (hof : Off [w.heap.size + 1] wx w5) (he : t = .mk c true tag ⟨#[]⟩ ts) :
    RetT t w (.returned (.agg #[.int .i64 c, .bool true, .int .i64 tag, .string ⟨#[]⟩, .slice (some ⟨bo, 0, none⟩) n cap])) w5 := by
  subst he
  refine ⟨h.1.trans (hof.below h.1.size (by simp)), _, rfl, TlAt.keep hof.size (fun x hx hlt => hof.block x hlt ?_) (fun x hx _ => ?_) _ _ (h.tree hc ht)⟩
  · have hx : w.heap.size + 2 ≤ x := hx
    simp
    omega
  · have hx : w.heap.size + 2 ≤ x := hx
    show w.heap.size ≤ x
    omega
set_option maxHeartbeats 8000000 in
theorem ctl_do (d : Co) (c : List Value) (S : Nat → Prop) (w : World) (h : CoAt w S d c) : Calls Tryd.prog 21 #[.agg c.toArray] w (RetT (tctl d) w) := by
  obtain ⟨i0, hi, iz0, iz1, iz2⟩ := info_parts info_tlv
  obtain ⟨ty, crit, has, v⟩ := d
  obtain ⟨rfl, hz1, hz2⟩ := h
  simp only at hz1 hz2 ⊢
  obtain ⟨wa, hwa⟩ : ∃ W, W = w.alloc (.cells #[.string ty, .bool crit, .bool has, .string v] 56) := ⟨_, rfl⟩
  have hsa : wa.heap.size = w.heap.size + 1 := by rw [hwa]; simp
  have hba : Below w.heap.size w wa := by rw [hwa]; exact (Below.refl w.heap.size w).alloc (Nat.le_refl _) _
  have hka : Bk wa w.heap.size 56 #[.string ty, .bool crit, .bool has, .string v] := by rw [hwa]; exact Bk.new w _ _
  obtain ⟨wc, hwc⟩ : ∃ W, W = wa.alloc (.cells tz5 38) := ⟨_, rfl⟩
  have hsc : wc.heap.size = w.heap.size + 2 := by rw [hwc]; simp [hsa]
  have hbx : Below w.heap.size w wc := by rw [hwc]; exact hba.alloc hba.size _
  have hkx : Bk wc w.heap.size 56 #[.string ty, .bool crit, .bool has, .string v] := by rw [hwc]; exact hka.alloc _
  have hgx : Bk wc (w.heap.size + 1) 38 tz5 := by rw [hwc, ← hsa]; exact Bk.new wa _ _
  have HBX := Lib.hid hbx
  have HKX := Lib.hid hkx
  have HGX := Lib.hid hgx
  have HSC := Lib.hid hsc
  have HZ1 := Lib.hid hz1
  have HZ2 := Lib.hid hz2
  have HWC := Lib.hid (show w.heap.size + 1 = wa.heap.size ∧ wc = (w.alloc (.cells #[.string ty, .bool crit, .bool has, .string v] 56)).alloc (.cells tz5 38) from ⟨hsa.symm, by rw [hwc, hwa]⟩)
  clear hwc hwa hsa hba hka hbx hkx hgx hsc hz1 hz2
  go_enter Tryd.func21, Tryd.ntmps21
  go_upto_if 10 with (first
    | (go_at_call 41; refine (text_t ty _ HZ1.out).mono ?_; rintro e w1 ⟨hb1, cs1, rfl, ht1⟩; obtain ⟨a0, a1, a2, a3, aA, an, ac, rfl⟩ := tlAt_form ht1; rw [← HWC.out.2] at hb1; have HT1 := Lib.hid (show LeafC (tstr ty) [.int .i64 a0, .bool a1, .int .i64 a2, .string a3, .slice aA an ac] from ⟨rfl, leaf_free ht1⟩); have hbx1 := HBX.out.trans (hb1.mono HBX.out.size); have hs1 := hb1.size; have HLIT := Lib.hid (World.ownsRow_lit (base := w.heap.size) (e := 38) (size := 5) w1 #[.int .i64 a0, .bool a1, .int .i64 a2, .string a3, .slice aA an ac] 1 hbx1.size (by unfold maxLen; omega) rfl); have HB1 := Lib.hid (hbx1.alloc hbx1.size (.cells #[.int .i64 a0, .bool a1, .int .i64 a2, .string a3, .slice aA an ac] 38)); have HK1 := Lib.hid ((bk_below HKX.out hb1).alloc (.cells #[.int .i64 a0, .bool a1, .int .i64 a2, .string a3, .slice aA an ac] 38)); have HG1 := Lib.hid ((bk_below HGX.out hb1).alloc (.cells #[.int .i64 a0, .bool a1, .int .i64 a2, .string a3, .slice aA an ac] 38)); clear hb1 ht1 hbx1)
    | (go_at_call 17; refine (list_t _ _ _ _).mono ?_; rintro e w2 ⟨rfl, hb2⟩; have HNC := Lib.hid (show NodeC w (w2.alloc (.cells #[.int .i64 0, .bool true, .int .i64 16, .string ⟨#[]⟩, .slice (some ⟨w1.heap.size, 0, none⟩) 1 1] 38)) 56 #[.string ty, .bool crit, .bool has, .string v] 0 16 w2.heap.size w1.heap.size 1 1 [[.int .i64 a0, .bool a1, .int .i64 a2, .string a3, .slice aA an ac]] [tstr ty] from
        have hbb := HB1.out.trans (hb2.mono HB1.out.size); have hs2 := hb2.size; have hsc := HSC.out; ⟨hbb.alloc hbb.size _, (bk_below HK1.out hb2).alloc _, (bk_below HG1.out hb2).alloc _, Bk.new w2 _ _, ⟨by simp at hs2; omega, by simp at hs2; omega, by omega, by omega⟩, World.ownsRow.alloc ((Off.of_below hb2 []).own HLIT.out (by simp)) _, ⟨HT1.out, trivial⟩, rfl⟩); have q1 : (w2.alloc (.cells #[.int .i64 0, .bool true, .int .i64 16, .string ⟨#[]⟩, .slice (some ⟨w1.heap.size, 0, none⟩) 1 1] 38)).cell? ⟨w.heap.size, 1, none⟩ = some (.bool crit) := HNC.out.2.1.cell 1; have hlt2 := (bk_below HK1.out hb2).lt; clear hb2)
    | fail)
  go_cut [3] from 11 to 16 (fun v9 wx => ∃ (g bo n cap : Nat) (css : List (List Value)), v9 = .pointer (some ⟨g, 0, none⟩) ∧ NodeC w wx 56 #[.string ty, .bool crit, .bool has, .string v] 0 16 g bo n cap css (tstr ty :: (if crit then [tbool true] else [])) ∧ n ≤ 2)
  case first =>
    obtain ⟨wx, hwx⟩ : ∃ W, W = w2.alloc (.cells #[.int .i64 0, .bool true, .int .i64 16, .string ⟨#[]⟩, .slice (some ⟨w1.heap.size, 0, none⟩) 1 1] 38) := ⟨_, rfl⟩
    rw [← hwx] at HNC q1 ⊢
    clear hwx
    obtain ⟨g, hg⟩ : ∃ g, g = w2.heap.size := ⟨_, rfl⟩
    rw [← hg] at HNC ⊢
    clear hg
    cases crit with
    | false =>
      go_wp2_with fail
      go_meet
      exact ⟨g, _, _, _, _, rfl, HNC.out, by omega⟩
    | true =>
      go_wp2_with fail
      have hbk := HNC.out.2.2.2.1
      have u1 : wx.cell? ⟨g, 4, none⟩ = some (.slice (some ⟨w1.heap.size, 0, none⟩) 1 1) := hbk.cell 4
      have u2 := hbk.frozen 4
      have u3 := hbk.lt
      have hown5 := HNC.out.2.2.2.2.2.1
      have HOWN5 := Lib.hid hown5
      have hne : ¬ (w1.heap.size = g) := HNC.out.2.2.2.2.1.2.1
      have hbl : w1.heap.size < wx.heap.size := (World.ownsRow.lt hown5 _ rfl).2
      have hwx2 := HNC.out.1.size
      clear hown5 hbk
      go_region_law ((first
        | (go_simp; go_at_call 42; refine (bool_t true _).mono ?_ ; rintro e w6 ⟨hb6, cs6, rfl, ht6⟩; obtain ⟨r0, r1, r2, r3, rA, rn, rc, rfl⟩ := tlAt_form ht6; have hg6 := bk_below HNC.out.2.2.2.1.drew hb6; have HT6 := Lib.hid (leaf_free ht6); have y1 : w6.cell? ⟨g, 4, none⟩ = some (.slice (some ⟨w1.heap.size, 0, none⟩) 1 1) := hg6.cell 4; have y2 := hg6.frozen 4; have y3 := hg6.lt; have HB6 := Lib.hid hb6; have hown6 := (Off.of_below hb6 []).own (World.ownsRow.drew HOWN5.out) (by simp); have hs6 := hb6.size; clear hg6)
        | (refine step_append_lies _ ?g1 (.tmp 12) (.tmp 14) 36 ?g2 w.heap.size 38 i0 _ 5 64 Tryd.underlying36 hi iz0 iz1 iz2 ?q1 ?q2 (.slice (some ⟨w1.heap.size, 0, none⟩) 1 1) 1 [.int .i64 a0, .bool a1, .int .i64 a2, .string a3, .slice aA an ac] ?q3 (hown6.alloc _) ⟨w6.heap.size, 0, none⟩ 1 1 [.int .i64 r0, .bool r1, .int .i64 r2, .string r3, .slice rA rn rc] ?q5 ?q6 ?q7 ?q8 ?q9 ?q10 ?q11 ?q12 (w6.heap.size + 1) ?q13 ?_; (case g1 => (rfl)); (case g2 => (rfl)); (case q1 => (rfl)); (case q2 => (omega)); (case q3 => (rfl)); (case q5 => (rfl)); (case q6 => (rfl)); (case q7 => (exact World.news_of_block (cs := #[.int .i64 r0, .bool r1, .int .i64 r2, .string r3, .slice rA rn rc]) (heap_alloc_new w6 _))); (case q8 => (simp [Value.oneCell'])); (case q9 => (omega)); (case q10 => (unfold maxLen; omega)); (case q11 => (omega)); (case q12 => (simp at hs6 ⊢; omega)); (case q13 => (simp)); intro gg cap7 w7 hown7 hgrow7 hat7 hlt7; have hkg := two_grown ⟨(two_alloc y1 y2 y3 _).1, (two_alloc y1 y2 y3 _).2⟩ hgrow7 (by simp [Value.ownBlock]; omega) (by simp; omega); have hkg1 := hkg.1; have hkg2 := hkg.2)
        | fail))
      all_goals
        have HN := Lib.hid (NodeC.push HNC.out HB6.out ⟨rfl, HT6.out⟩ (by omega) hown7 hgrow7 hat7)
        clear hown7 hgrow7 hat7 hkg hkg1 hkg2 hown6 y1 y2 y3 u1 u2 u3
        go_wp2_with fail
        go_meet
        exact ⟨g, _, _, _, _, rfl, HN.out, by omega⟩
  case rest =>
    obtain ⟨g, bo, n, cap, css, rfl, hnc, hn2⟩ := hcut
    have HNC := Lib.hid hnc
    have q2 : wc.cell? ⟨w.heap.size, 2, none⟩ = some (.bool has) := hnc.2.1.cell 2
    have hlt3 := hnc.2.1.lt
    clear hnc
    have q3 : wc.cell? ⟨w.heap.size, 3, none⟩ = some (.string v) := HNC.out.2.1.cell 3
    cases has with
    | false =>
      have hbg := HNC.out.2.2.2.1
      have e0 := hbg.cell 0
      have e1 := hbg.cell 1
      have e2 := hbg.cell 2
      have e3 := hbg.cell 3
      have e4 := hbg.cell 4
      have elt := hbg.lt
      have HZ9 := Lib.hid HNC.out.2.2.1
      clear hbg
      go_wp2_with (first
        | (refine wpList_store_wide rfl 38 (.tmp 2) (.tmp 27) rfl (w.heap.size + 1) rfl #[.int .i64 0, .bool true, .int .i64 16, .string ⟨#[]⟩, .slice (some ⟨bo, 0, none⟩) n cap] rfl 38 tz5 HZ9.out rfl (by kernel_rfl) (by simp [Value.oneCell']) (fun w9 hbk9 hof9 => ?_); have HOF9 := Lib.hid hof9; have r0' := hbk9.cell 0; have r1' := hbk9.cell 1; have r2' := hbk9.cell 2; have r3' := hbk9.cell 3; have r4' := hbk9.cell 4)
        | fail)
      exact bodyPost_ret (v := .agg #[.int .i64 0, .bool true, .int .i64 16, .string ⟨#[]⟩, .slice (some ⟨bo, 0, none⟩) n cap]) (by simp [results, Tryd.results21, go_sem, r0', r1', r2', r3', r4']) rfl (NodeC.done HNC.out rfl rfl HOF9.out (by cases crit <;> rfl))
    | true =>
      go_wp2_with fail
      have hbk := HNC.out.2.2.2.1
      have u1 : wc.cell? ⟨g, 4, none⟩ = some (.slice (some ⟨bo, 0, none⟩) n cap) := hbk.cell 4
      have u2 := hbk.frozen 4
      have u3 := hbk.lt
      have hown5 := HNC.out.2.2.2.2.2.1
      have HOWN5 := Lib.hid hown5
      have hne : ¬ (bo = g) := HNC.out.2.2.2.2.1.2.1
      have hbl : bo < wc.heap.size := (World.ownsRow.lt hown5 _ rfl).2
      have hwx2 := HNC.out.1.size
      clear hown5 hbk
      go_region_law ((first
        | (go_simp; go_at_call 41; refine (text_t v _ HZ2.out).mono ?_ ; rintro e w6 ⟨hb6, cs6, rfl, ht6⟩; obtain ⟨r0, r1, r2, r3, rA, rn, rc, rfl⟩ := tlAt_form ht6; have hg6 := bk_below HNC.out.2.2.2.1.drew hb6; have HT6 := Lib.hid (leaf_free ht6); have y1 : w6.cell? ⟨g, 4, none⟩ = some (.slice (some ⟨bo, 0, none⟩) n cap) := hg6.cell 4; have y2 := hg6.frozen 4; have y3 := hg6.lt; have HB6 := Lib.hid hb6; have hown6 := (Off.of_below hb6 []).own (World.ownsRow.drew HOWN5.out) (by simp); have hs6 := hb6.size; clear hg6)
        | (refine step_append_lies _ ?g1 (.tmp 20) (.tmp 24) 36 ?g2 w.heap.size 38 i0 _ 5 64 Tryd.underlying36 hi iz0 iz1 iz2 ?q1 ?q2 (.slice (some ⟨bo, 0, none⟩) n cap) n css.flatten ?q3 (hown6.alloc _) ⟨w6.heap.size, 0, none⟩ 1 1 [.int .i64 r0, .bool r1, .int .i64 r2, .string r3, .slice rA rn rc] ?q5 ?q6 ?q7 ?q8 ?q9 ?q10 ?q11 ?q12 (w6.heap.size + 1) ?q13 ?_; (case g1 => (rfl)); (case g2 => (rfl)); (case q1 => (rfl)); (case q2 => (omega)); (case q3 => (rfl)); (case q5 => (rfl)); (case q6 => (rfl)); (case q7 => (exact World.news_of_block (cs := #[.int .i64 r0, .bool r1, .int .i64 r2, .string r3, .slice rA rn rc]) (heap_alloc_new w6 _))); (case q8 => (simp [Value.oneCell'])); (case q9 => (omega)); (case q10 => (unfold maxLen; omega)); (case q11 => (omega)); (case q12 => (simp at hs6 ⊢; omega)); (case q13 => (simp)); intro gg cap7 w7 hown7 hgrow7 hat7 hlt7; have hkg := two_grown ⟨(two_alloc y1 y2 y3 _).1, (two_alloc y1 y2 y3 _).2⟩ hgrow7 (by simp [Value.ownBlock]; omega) (by simp; omega); have hkg1 := hkg.1; have hkg2 := hkg.2)
        | fail))
      all_goals
        have HN := Lib.hid (NodeC.push HNC.out HB6.out ⟨rfl, HT6.out⟩ (by omega) hown7 hgrow7 hat7)
        clear hown7 hgrow7 hat7 hkg hkg1 hkg2 hown6 y1 y2 y3 u1 u2 u3
        have hbg := HN.out.2.2.2.1
        have e0 := hbg.cell 0
        have e1 := hbg.cell 1
        have e2 := hbg.cell 2
        have e3 := hbg.cell 3
        have e4 := hbg.cell 4
        have elt := hbg.lt
        have HZ9 := Lib.hid HN.out.2.2.1
        clear hbg
        go_wp2_with (first
          | (refine wpList_store_wide rfl 38 (.tmp 2) (.tmp 27) rfl (w.heap.size + 1) rfl #[.int .i64 0, .bool true, .int .i64 16, .string ⟨#[]⟩, .slice (some ⟨gg, 0, none⟩) (n + 1) cap7] rfl 38 tz5 HZ9.out rfl (by kernel_rfl) (by simp [Value.oneCell']) (fun w9 hbk9 hof9 => ?_); have HOF9 := Lib.hid hof9; have r0' := hbk9.cell 0; have r1' := hbk9.cell 1; have r2' := hbk9.cell 2; have r3' := hbk9.cell 3; have r4' := hbk9.cell 4)
          | fail)
        exact bodyPost_ret (v := .agg #[.int .i64 0, .bool true, .int .i64 16, .string ⟨#[]⟩, .slice (some ⟨gg, 0, none⟩) (n + 1) cap7]) (by simp [results, Tryd.results21, go_sem, r0', r1', r2', r3', r4']) rfl (NodeC.done HN.out rfl rfl HOF9.out (by cases crit <;> rfl))
end Go.Proofs.YtbiglfpikfjbpaaDoor
/- The writer: a filter's value. -/
namespace Go.Proofs.YtbiglfpikfjbpaaDoor
open Go.RowKit
set_option maxRecDepth 100000
set_option linter.unusedVariables false
set_option linter.unusedSimpArgs false
/-- The memory behind filterValue's first statements. -/
structure FilW (w wc : World) (k : Int) (fc : List Value) : Prop where
  size : wc.heap.size = w.heap.size + 3
  below : Below w.heap.size w wc
  box : Bk wc w.heap.size 25 fc.toArray
  res : Bk wc (w.heap.size + 1) 38 tz5
  val : Bk wc (w.heap.size + 2) 38 #[.int .i64 2, .bool true, .int .i64 k, .string ⟨#[]⟩, .slice none 0 0]
def filW (w : World) (k : Int) (fc : List Value) : World := ((w.alloc (.cells fc.toArray 25)).alloc (.cells tz5 38)).alloc (.cells #[.int .i64 2, .bool true, .int .i64 k, .string ⟨#[]⟩, .slice none 0 0] 38)
theorem filW_at (w : World) (k : Int) (fc : List Value) : FilW w (filW w k fc) k fc := by
  have h1 : (w.alloc (.cells fc.toArray 25)).heap.size = w.heap.size + 1 := by simp
  have h2 : ((w.alloc (.cells fc.toArray 25)).alloc (.cells tz5 38)).heap.size = w.heap.size + 2 := by simp
  refine ⟨by simp [filW], (((Below.refl _ w).alloc (Nat.le_refl _) _).alloc (by simp) _).alloc (by simp; omega) _, ((Bk.new w _ _).alloc _).alloc _, ?_, ?_⟩
  · have := (Bk.new (w.alloc (.cells fc.toArray 25)) 38 tz5).alloc (.cells #[.int .i64 2, .bool true, .int .i64 k, .string ⟨#[]⟩, .slice none 0 0] 38)
    rw [h1] at this
    exact this
  · have := Bk.new ((w.alloc (.cells fc.toArray 25)).alloc (.cells tz5 38)) 38 #[.int .i64 2, .bool true, .int .i64 k, .string ⟨#[]⟩, .slice none 0 0]
    rw [h2] at this
    exact this
/-- A value whose kids lie in new blocks is laid into the result. -/
theorem FilW.done {w wc w1 w9 : World} {k : Int} {fc : List Value} {q : Rw} {ts : List Tl} {g : Int} (h : FilW w wc k fc) (hb : Below wc.heap.size wc w1) (hq : RowOf 5 TlL w1 (fun x => wc.heap.size ≤ x) q ts) (hg : (Lit.int .i64 g).wf = true) (hof : Off [w.heap.size + 1, w.heap.size + 2] w1 w9) :
    RetT (.mk 2 true g ⟨#[]⟩ ts) w (.returned (.agg #[.int .i64 2, .bool true, .int .i64 g, .string ⟨#[]⟩, .slice q.A q.n q.c])) w9 := by
  have h1 := h.below.trans (hb.mono h.below.size)
  refine ⟨h1.trans (hof.below h1.size (by intro x hx; simp at hx; omega)), _, rfl, TlAt.keep hof.size (fun x hx hlt => hof.block x hlt ?_) (fun x hx _ => ?_) _ _ (kids_at 2 g true ⟨#[]⟩ hq rfl hg (Nat.zero_le _))⟩
  · have hx : wc.heap.size ≤ x := hx
    have := h.size
    simp
    omega
  · have hx : wc.heap.size ≤ x := hx
    have := h.size
    show w.heap.size ≤ x
    omega
set_option maxHeartbeats 4000000 in
theorem fil_many (k : Int) (a v f : ByteArray) (any : List ByteArray) (l : ByteArray) (kids : List Fl) (c : List Value) (S : Nat → Prop) (w : World) (h : FlAt w S (.mk k a v f any l kids) c) (hk : k = 0 ∨ k = 1 ∨ k = 2) (hn : kids.length ≤ 1000000)
    (ih : ∀ y ∈ kids, ∀ (W : World) (c : List Value), FlAt W S y c → Calls Tryd.prog 80 #[.agg c.toArray] W (RetT (ftree y) W)) :
    Calls Tryd.prog 80 #[.agg c.toArray] w (RetT (.mk 2 true k ⟨#[]⟩ (ftrees kids)) w) := by
  unfold FlAt at h
  obtain ⟨⟨qA, qn, qc⟩, ⟨rA, rn, rc⟩, rfl, ⟨hw0, hz1, hz2, hz3, hz4⟩, hq, hr, hks⟩ := h
  simp only at hr hks ⊢
  have hrow : RowOf 7 FlAt w S ⟨rA, rn, rc⟩ kids := flRow_iff.2 ⟨hr, hks⟩
  obtain ⟨hr1, hr2, hr3⟩ := hr
  subst hr1
  obtain ⟨fc, hfc⟩ : ∃ fc : List Value, fc = [.int .i64 k, .string a, .string v, .string f, .slice qA qn qc, .string l, .slice rA kids.length rc] := ⟨_, rfl⟩
  have hW := filW_at w k fc
  obtain ⟨wc, hwc⟩ : ∃ W, W = filW w k fc := ⟨_, rfl⟩
  rw [← hwc] at hW
  have HW := Lib.hid hW
  have HWC := Lib.hid hwc
  unfold filW at HWC
  rw [hfc] at HWC hW
  have c0 := hW.box.cell 0
  have c6 := hW.box.cell 6
  have HOF := Lib.hid fun (W : World) (hb : Below wc.heap.size wc W) => (show Calls Tryd.prog 85 #[.slice rA kids.length rc, .func (.func 80) #[] #[]] W (OfPost (ftrees kids) W) by
    have hbb := hW.below.trans (hb.mono hW.below.size)
    rw [ftrees_map]
    exact of_fil rA rc kids S ftree W (RowOf.keep flAt_stable hrow (T := S) hbb.size (fun x _ hlt => hbb.block x hlt) (fun _ h _ => h)) hn (fun y hy W' c' _ hat => ih y hy W' c' hat))
  have HWF := Lib.hid hw0
  clear hwc hrow hks hq hW ih
  rcases hk with rfl | rfl | rfl
  all_goals
    go_enter Tryd.func80, Tryd.ntmps80
    go_upto_region 2 with (fail)
    rw [← HWC.out]
    go_wp2_with (first
      | (go_at_call 85; refine (HOF.out _ (Below.refl _ _)).mono ?_; rintro e w1 ⟨hb1, q1, rfl, hq1⟩; have hg1 := bk_below HW.out.val hb1; have e0 := hg1.cell 0; have e1 := hg1.cell 1; have e2 := hg1.cell 2; have e3 := hg1.cell 3; have e4 := hg1.cell 4; have f4 := hg1.frozen 4; have elt := hg1.lt; have HZ1 := Lib.hid ((bk_below HW.out.res hb1).far (p := ⟨w.heap.size + 2, 4, none⟩) (by simp) (.slice q1.A q1.n q1.c)); have HB1 := Lib.hid hb1; have HQ1 := Lib.hid hq1; clear hb1 hg1 hq1)
      | (refine wpList_store_wide rfl 38 (.tmp 2) (.tmp 63) rfl (w.heap.size + 1) rfl #[.int .i64 2, .bool true, .int .i64 _, .string ⟨#[]⟩, .slice q1.A q1.n q1.c] rfl 38 tz5 HZ1.out rfl (by kernel_rfl) (by simp [Value.oneCell']) (fun w9 hbk9 hof9 => ?_); have HOF9 := Lib.hid hof9; have r0 := hbk9.cell 0; have r1 := hbk9.cell 1; have r2 := hbk9.cell 2; have r3 := hbk9.cell 3; have r4 := hbk9.cell 4)
      | fail)
    exact bodyPost_ret (v := .agg #[.int .i64 2, .bool true, .int .i64 _, .string ⟨#[]⟩, .slice q1.A q1.n q1.c]) (by simp [results, Tryd.results80, go_sem, r0, r1, r2, r3, r4]) rfl (HW.out.done HB1.out HQ1.out HWF.out (((Off.refl [w.heap.size + 1, w.heap.size + 2] w1).setCell (.inl (by simp)) _).trans (HOF9.out.mono (by simp))))
set_option maxHeartbeats 4000000 in
theorem fil_has (a v f : ByteArray) (any : List ByteArray) (l : ByteArray) (kids : List Fl) (c : List Value) (S : Nat → Prop) (w : World) (h : FlAt w S (.mk 7 a v f any l kids) c) :
    Calls Tryd.prog 80 #[.agg c.toArray] w (RetT (town 7 a) w) := by
  unfold FlAt at h
  obtain ⟨⟨qA, qn, qc⟩, ⟨rA, rn, rc⟩, rfl, ⟨hw0, hz1, hz2, hz3, hz4⟩, hq, hr, hks⟩ := h
  simp only at hr hks hq ⊢
  obtain ⟨fc, hfc⟩ : ∃ fc : List Value, fc = [.int .i64 7, .string a, .string v, .string f, .slice qA qn qc, .string l, .slice rA rn rc] := ⟨_, rfl⟩
  have hW := filW_at w 7 fc
  obtain ⟨wc, hwc⟩ : ∃ W, W = filW w 7 fc := ⟨_, rfl⟩
  rw [← hwc] at hW
  have HW := Lib.hid hW
  have HWC := Lib.hid hwc
  unfold filW at HWC
  rw [hfc] at HWC hW
  have HFC := Lib.hid hfc
  have hbx : Bk wc w.heap.size 25 #[.int .i64 7, .string a, .string v, .string f, .slice qA qn qc, .string l, .slice rA rn rc] := hW.box
  have HBX := Lib.hid hbx
  have c0 := hbx.cell 0
  have c1 := hbx.cell 1
  have c2 := hbx.cell 2
  have c3 := hbx.cell 3
  have HSZ := Lib.hid hW.size
  have HZ1 := Lib.hid hz1
  have HZ2 := Lib.hid hz2
  have HZ3 := Lib.hid hz3
  have HZ4 := Lib.hid hz4
  have HWF := Lib.hid hw0
  clear hwc hks hq hr hW hbx hz1 hz2 hz3 hz4 hw0 hfc
  go_enter Tryd.func80, Tryd.ntmps80
  go_upto_region 2 with (fail)
  rw [← HWC.out]
  go_wp2_with (first
    | (go_at_call 66; refine (own_t 7 a _ rfl HZ1.out).mono ?_; rintro e w1 ⟨hb1, cs1, rfl, ht1⟩; obtain ⟨a0, a1, a2, a3, aA, an, ac, rfl⟩ := tlAt_form ht1; have HR1 := Lib.hid (bk_below HW.out.res hb1); have HB1 := Lib.hid hb1; have HT1 := Lib.hid (leaf_free ht1); clear hb1 ht1)
    | (refine wpList_store_wide rfl 38 (.tmp 2) (.tmp 30) rfl (w.heap.size + 1) rfl #[.int .i64 a0, .bool a1, .int .i64 a2, .string a3, .slice aA an ac] rfl 38 tz5 HR1.out rfl (by kernel_rfl) (by simp [Value.oneCell']) (fun w9 hbk9 hof9 => ?_); have HOF9 := Lib.hid hof9; have r0 := hbk9.cell 0; have r1 := hbk9.cell 1; have r2 := hbk9.cell 2; have r3 := hbk9.cell 3; have r4 := hbk9.cell 4)
    | fail)
  have h1 := HW.out.below.trans (HB1.out.mono HW.out.below.size)
  exact bodyPost_ret (v := .agg #[.int .i64 a0, .bool a1, .int .i64 a2, .string a3, .slice aA an ac]) (by simp [results, Tryd.results80, go_sem, r0, r1, r2, r3, r4]) rfl ⟨h1.trans (HOF9.out.below h1.size (by simp)), _, rfl, HT1.out _ _⟩
set_option maxHeartbeats 8000000 in
theorem fil_pair (k : Int) (a v f : ByteArray) (any : List ByteArray) (l : ByteArray) (kids : List Fl) (c : List Value) (S : Nat → Prop) (w : World) (h : FlAt w S (.mk k a v f any l kids) c) (hk : k = 3 ∨ k = 5 ∨ k = 6 ∨ k = 8) :
    Calls Tryd.prog 80 #[.agg c.toArray] w (RetT (.mk 2 true k ⟨#[]⟩ [tstr a, tstr v]) w) := by
  unfold FlAt at h
  obtain ⟨⟨qA, qn, qc⟩, ⟨rA, rn, rc⟩, rfl, ⟨hw0, hz1, hz2, hz3, hz4⟩, hq, hr, hks⟩ := h
  simp only at hr hks hq ⊢
  obtain ⟨fc, hfc⟩ : ∃ fc : List Value, fc = [.int .i64 k, .string a, .string v, .string f, .slice qA qn qc, .string l, .slice rA rn rc] := ⟨_, rfl⟩
  have hW := filW_at w k fc
  obtain ⟨wc, hwc⟩ : ∃ W, W = filW w k fc := ⟨_, rfl⟩
  rw [← hwc] at hW
  have HW := Lib.hid hW
  have HWC := Lib.hid hwc
  unfold filW at HWC
  rw [hfc] at HWC hW
  have HFC := Lib.hid hfc
  have hbx : Bk wc w.heap.size 25 #[.int .i64 k, .string a, .string v, .string f, .slice qA qn qc, .string l, .slice rA rn rc] := hW.box
  have HBX := Lib.hid hbx
  have c0 := hbx.cell 0
  have c1 := hbx.cell 1
  have c2 := hbx.cell 2
  have c3 := hbx.cell 3
  have HSZ := Lib.hid hW.size
  have HZ1 := Lib.hid hz1
  have HZ2 := Lib.hid hz2
  have HZ3 := Lib.hid hz3
  have HZ4 := Lib.hid hz4
  have HWF := Lib.hid hw0
  have HT_a := Lib.hid fun (W : World) => text_t a W hz1
  have HT_v := Lib.hid fun (W : World) => text_t v W hz2
  have HBR := Lib.hid (Below.refl wc.heap.size wc).drew
  have HKF := Lib.hid fun (W : World) (hk : Bk W w.heap.size 25 #[.int .i64 k, .string a, .string v, .string f, .slice qA qn qc, .string l, .slice rA rn rc]) (hb : Below w.heap.size w W) => (show W.cell? ⟨w.heap.size, 1, none⟩ = some (.string a) ∧ W.cell? ⟨w.heap.size, 2, none⟩ = some (.string v) ∧ Below w.heap.size w W from
    ⟨hk.cell 1, hk.cell 2, hb⟩)
  have HKS := Lib.hid fun (W : World) (hb : Below wc.heap.size wc W) => HKF.out W (bk_below hbx hb) (hW.below.trans (hb.mono hW.below.size))
  clear hwc hks hq hr hW hbx hz1 hz2 hz3 hz4 hw0 hfc
  rcases hk with rfl | rfl | rfl | rfl
  all_goals
    go_enter Tryd.func80, Tryd.ntmps80
    go_upto_region 2 with (fail)
    rw [← HWC.out]
    go_wp2_with fail
    go_region_held3 (fun W => W.cell? ⟨w.heap.size, 1, none⟩ = some (.string a) ∧ W.cell? ⟨w.heap.size, 2, none⟩ = some (.string v) ∧ Below w.heap.size w W)
      (first | (with_reducible exact HSF) | (with_reducible exact HKS.out _ HBR.out) | (with_reducible exact HKS.out _ (by assumption)) | (with_reducible exact HKS.out _ hn3))
      (first
        | (go_at_call 41; (with_reducible refine (HT_a.out _).mono ?_); rintro e w1 ⟨hb1, cs1, rfl, ht1⟩; obtain ⟨a10, a11, a12, a13, a1A, a1n, a1c, rfl⟩ := tlAt_form ht1; have hn1 := bel_step HBR.out hb1)
        | (go_at_call 41; (with_reducible refine (HT_v.out _).mono ?_); rintro e w2 ⟨hb2, cs2, rfl, ht2⟩; obtain ⟨a20, a21, a22, a23, a2A, a2n, a2c, rfl⟩ := tlAt_form ht2; have hn2 := bel_step hn1 hb2; have hn3 := bel1 hn2 (.cells #[.int .i64 a10, .bool a11, .int .i64 a12, .string a13, .slice a1A a1n a1c, .int .i64 a20, .bool a21, .int .i64 a22, .string a23, .slice a2A a2n a2c] 38); have hg3 := bk_below HW.out.val hn3; have hg2 := bk_below HW.out.val hn2; have y4 : w2.cell? ⟨w.heap.size + 1 + 1, 4, none⟩ = some (.slice none 0 0) := hg2.cell 4; have y4f : w2.frozen? ⟨w.heap.size + 1 + 1, 4, none⟩ = false := hg2.frozen 4; have y4l : w.heap.size + 1 + 1 < w2.heap.size := hg2.lt; have hk8 := (bk_below HBX.out hn3).far (p := ⟨w.heap.size + 1 + 1, 4, none⟩) (by simp; omega) (.slice (some ⟨w2.heap.size, 0, none⟩) 2 2); have hb8 := (HW.out.below.trans (hn3.mono HW.out.below.size)).setCell (p := ⟨w.heap.size + 1 + 1, 4, none⟩) (by simp; omega) (.slice (some ⟨w2.heap.size, 0, none⟩) 2 2); rw [World.setCell_alloc_past _ _ _ _ y4l] at hk8 hb8; have HSF := HKF.out _ hk8 hb8)
        | fail)
    all_goals
      have hs1 := hn1.size
      have HROW := Lib.hid (lit_row (w8 := w2) (B := wc.heap.size) (n := 2) (ts := [tstr a, tstr v]) [[.int .i64 a10, .bool a11, .int .i64 a12, .string a13, .slice a1A a1n a1c], [.int .i64 a20, .bool a21, .int .i64 a22, .string a23, .slice a2A a2n a2c]] #[.int .i64 a10, .bool a11, .int .i64 a12, .string a13, .slice a1A a1n a1c, .int .i64 a20, .bool a21, .int .i64 a22, .string a23, .slice a2A a2n a2c] hn2.size rfl
        ⟨⟨rfl, TlAt.up ht1 hb2 (Nat.le_refl _)⟩, ⟨rfl, TlAt.up ht2 (Below.refl _ _) hs1⟩, trivial⟩ rfl (by omega))
      have HN3 := Lib.hid hn3
      have HOF := Lib.hid ((Off.refl [w.heap.size + 1, w.heap.size + 2] _).setCell (w := w2.alloc (.cells #[.int .i64 a10, .bool a11, .int .i64 a12, .string a13, .slice a1A a1n a1c, .int .i64 a20, .bool a21, .int .i64 a22, .string a23, .slice a2A a2n a2c] 38)) (p := ⟨w.heap.size + 1 + 1, 4, none⟩) (.inl (by simp)) (.slice (some ⟨w2.heap.size, 0, none⟩) 2 2))
      have hg8 := hg3.put 4 (.slice (some ⟨w2.heap.size, 0, none⟩) 2 2)
      have hz8 := (bk_below HW.out.res hn3).far (p := ⟨w.heap.size + 1 + 1, 4, none⟩) (by simp) (.slice (some ⟨w2.heap.size, 0, none⟩) 2 2)
      rw [show w.heap.size + 2 = w.heap.size + 1 + 1 from rfl, World.setCell_alloc_past _ _ _ _ y4l] at hg8
      rw [World.setCell_alloc_past _ _ _ _ y4l] at hz8 HOF
      have e0 := hg8.cell 0
      have e1 := hg8.cell 1
      have e2 := hg8.cell 2
      have e3 := hg8.cell 3
      have e4 := hg8.cell 4
      have elt := hg8.lt
      have HZ8 := Lib.hid hz8
      clear hz8 hg8 hg3 hg2 hk8 hb8 HSF hn1 hn2 hn3 ht1 ht2 hb1 hb2 hs1 y4 y4f y4l
      go_wp2_with (first
        | (refine wpList_store_wide rfl 38 (.tmp 2) (.tmp 63) rfl (w.heap.size + 1) rfl #[.int .i64 2, .bool true, .int .i64 _, .string ⟨#[]⟩, .slice (some ⟨w2.heap.size, 0, none⟩) 2 2] rfl 38 tz5 HZ8.out rfl (by kernel_rfl) (by simp [Value.oneCell']) (fun w9 hbk9 hof9 => ?_); have HOF9 := Lib.hid hof9; have r0 := hbk9.cell 0; have r1 := hbk9.cell 1; have r2 := hbk9.cell 2; have r3 := hbk9.cell 3; have r4 := hbk9.cell 4)
        | fail)
      exact bodyPost_ret (v := .agg #[.int .i64 2, .bool true, .int .i64 _, .string ⟨#[]⟩, .slice (some ⟨w2.heap.size, 0, none⟩) 2 2]) (by simp [results, Tryd.results80, go_sem, r0, r1, r2, r3, r4]) rfl (HW.out.done (q := ⟨some ⟨w2.heap.size, 0, none⟩, 2, 2⟩) HN3.out HROW.out HWF.out (HOF.out.trans (HOF9.out.mono (by simp))))
end Go.Proofs.YtbiglfpikfjbpaaDoor
/- The writer: a filter by pieces. -/
namespace Go.Proofs.YtbiglfpikfjbpaaDoor
open Go.RowKit
set_option maxRecDepth 100000
set_option linter.unusedVariables false
set_option linter.unusedSimpArgs false
/-- The append's law with the length a letter. -/
theorem wpList_append_row {ops : Array Oper} {rest : List Oper} {o : Oper} {a : Act} {Q : Exit → Act → World → Prop} {w : World} (hgd : o.guard = none) (s x : Operand)
    (ho : o.op = .call { callee := .builtin .append, args := #[s, x], argTypes := #[36, 36] }) (hty : o.type = 36)
    (B : Nat) (v : Value) (ds : List Tl) (hs : a.eval s = v) (hG : TGrow w B v ds) (q : Rw) (ts : List Tl) (hx : a.eval x = .slice q.A q.n q.c) (hq : RowOf 5 TlL w (fun b => B ≤ b ∧ v.ownBlock ≠ some b) q ts) (hlen : ds.length + ts.length ≤ 1100000) (hB : B ≤ w.heap.size)
    (h : ∀ A n c w', TGrow w' B (.slice A n c) (ds ++ ts) → w.grownBy w' v.ownBlock → wpList Tryd.prog ops Q rest (a.put o.dst (.slice A n c)) w') : wpList Tryd.prog ops Q (o :: rest) a w :=
  wpList_append_trees hgd s x ho hty B v ds hs hG q ts hx hq hlen hB fun A c w' h2 h3 _ => h A _ c w' h2 h3
set_option maxHeartbeats 8000000 in
theorem fil_part (a v f : ByteArray) (any : List ByteArray) (l : ByteArray) (kids : List Fl) (c : List Value) (S : Nat → Prop) (w : World) (h : FlAt w S (.mk 4 a v f any l kids) c) (hn : any.length ≤ 1000000) :
    Calls Tryd.prog 80 #[.agg c.toArray] w (RetT (.mk 2 true 4 ⟨#[]⟩ [tstr a, tlist (tpieces f any l)]) w) := by
  unfold FlAt at h
  obtain ⟨⟨qA, qn, qc⟩, ⟨rA, rn, rc⟩, rfl, ⟨hw0, hz1, hz2, hz3, hz4⟩, hq, hr, hks⟩ := h
  simp only at hr hks hq ⊢
  obtain ⟨fc, hfc⟩ : ∃ fc : List Value, fc = [.int .i64 4, .string a, .string v, .string f, .slice qA qn qc, .string l, .slice rA rn rc] := ⟨_, rfl⟩
  have hW := filW_at w 4 fc
  obtain ⟨wz, hwc⟩ : ∃ W, W = filW w 4 fc := ⟨_, rfl⟩
  rw [← hwc] at hW
  have HW := Lib.hid hW
  have HWC := Lib.hid hwc
  unfold filW at HWC
  rw [hfc] at HWC hW
  have HFC := Lib.hid hfc
  have hbx : Bk wz w.heap.size 25 #[.int .i64 4, .string a, .string v, .string f, .slice qA qn qc, .string l, .slice rA rn rc] := hW.box
  have HBX := Lib.hid hbx
  have c0 := hbx.cell 0
  have c1 := hbx.cell 1
  have c2 := hbx.cell 2
  have c3 := hbx.cell 3
  have HSZ := Lib.hid hW.size
  have HZ1 := Lib.hid hz1
  have HZ2 := Lib.hid hz2
  have HZ3 := Lib.hid hz3
  have HZ4 := Lib.hid hz4
  have HWF := Lib.hid hw0
  have c4 := hbx.cell 4
  have c5 := hbx.cell 5
  have HOF := Lib.hid fun (W : World) (hb : Below wz.heap.size wz W) => (show Calls Tryd.prog 64 #[.slice qA qn qc, .func (.func 86) #[] #[]] W (OfPost (any.map (town 1)) W) by
    have hbb := hW.below.trans (hb.mono hW.below.size)
    have hq' := RowOf.keep strAt_stable hq (T := S) hbb.size (fun x _ hlt => hbb.block x hlt) (fun _ h _ => h)
    have := of_any qA qc any (town 1) W (srow_sl hq') hn (fun s hs W' => fil1_t s W' (srow_fit hq' s hs))
    rw [← hq.1] at this
    exact this)
  clear hwc hks hq hr hW hbx hz1 hz2 hz3 hz4 hw0 hfc
  go_enter Tryd.func80, Tryd.ntmps80
  go_upto_region 2 with (fail)
  rw [← HWC.out]
  go_upto_if 35 with (fail)
  go_cut [4] from 35 to 41 (fun v9 wx => ∃ (A : Option Addr) (n cp : Nat), v9 = .slice A n cp ∧ Below wz.heap.size wz wx ∧ TGrow wx wz.heap.size (.slice A n cp) (if fullB f then [town 0 f] else []))
  case first =>
    by_cases hf : f.toList.isEmpty = true
    · have hf2 : fullB f = false := by unfold fullB; rw [hf]; rfl
      rw [hf]
      go_wp2_with fail
      go_meet
      exact ⟨none, 0, 0, rfl, Below.refl _ _, by rw [hf2]; exact GRow.nil _ _⟩
    · have hf' : f.toList.isEmpty = false := by simpa using hf
      have hf2 : fullB f = true := by unfold fullB; rw [hf']; rfl
      clear hf
      rw [hf']
      go_wp2_with (first
        | (go_at_call 66; refine (own_t 0 f _ rfl HZ3.out).mono ?_; rintro e w1 ⟨hb1, cs1, rfl, ht1⟩; obtain ⟨a0, a1, a2, a3, aA, an, ac, rfl⟩ := tlAt_form ht1; have hs1 := hb1.size; have HB1 := Lib.hid hb1; have HT1 := Lib.hid (leaf_free ht1))
        | (at_builtin; refine wpList_append_row rfl (.tmp 36) (.tmp 40) rfl rfl wz.heap.size (.slice none 0 0) [] rfl (GRow.nil _ _) ⟨some ⟨w1.heap.size, 0, none⟩, 1, 1⟩ [town 0 f] rfl (one_row (Bk.new w1 _ _) ⟨hs1, by simp [Value.ownBlock]⟩ (HT1.out _ _)) (by simp) (by simp; omega) ?_; intro A7 n7 c7 w7 hG7 hgr7; have HG7 := Lib.hid hG7; have hb7 := (HB1.out.alloc hs1 _).grown hgr7 (by simp; omega) (fun x hx => by simp [Value.ownBlock] at hx); have HB7 := Lib.hid hb7; clear hG7 hgr7 hb7)
        | fail)
      go_meet
      exact ⟨A7, _, c7, rfl, HB7.out, by rw [hf2]; exact HG7.out⟩
  case rest =>
    obtain ⟨A, n, cp, rfl, hb2, hG2⟩ := hcut
    have hk2 := bk_below HBX.out hb2
    have p4 : wc.cell? ⟨w.heap.size, 4, none⟩ = some (.slice qA qn qc) := hk2.cell 4
    have hl2 := hk2.lt
    obtain ⟨fs, hfs⟩ : ∃ fs : List Tl, fs = (if fullB f then [town 0 f] else []) := ⟨_, rfl⟩
    have hdl : fs.length ≤ 1 := by rw [hfs]; split <;> simp
    rw [← hfs] at hG2
    have HFS := Lib.hid hfs
    have HB2 := Lib.hid hb2
    have HG2 := Lib.hid hG2
    clear hfs
    have HOF2 := Lib.hid (HOF.out _ hb2)
    have HN := Lib.hid hn
    clear hk2 hb2 hG2
    go_upto_if 49 with (first
      | (go_at_call 64; refine HOF2.out.mono ?_; rintro e w4 ⟨hb4, q4, rfl, hq4⟩; have hs4 := hb4.size; have hs2 := HB2.out.size; have HB4 := Lib.hid hb4; have HQ4 := Lib.hid hq4; clear hb4 hq4)
      | (at_builtin; refine wpList_append_row rfl (.tmp 42) (.tmp 45) rfl rfl wz.heap.size (.slice A n cp) _ rfl (GRow.below tlL_stable HG2.out HB4.out) q4 _ rfl (RowOf.keep tlL_stable HQ4.out (Nat.le_refl _) (fun _ _ _ => rfl) (fun x hx hlt => ⟨Nat.le_trans hs2 hx, fun e => by have h1 := (GRow.lt HG2.out x e).2; have hx : wc.heap.size ≤ x := hx; omega⟩)) (by have := HN.out; simp only [List.length_map]; omega) (by omega) ?_; intro A7 n7 c7 w7 hG7 hgr7; have HG7 := Lib.hid hG7; have hb7 := (HB2.out.trans (HB4.out.mono hs2)).grown hgr7 (by omega) (fun x hx => by have := (GRow.lt HG2.out x hx).1; exact this); have HB7 := Lib.hid hb7; have hk7 := bk_below HBX.out hb7; have p5 : w7.cell? ⟨w.heap.size, 5, none⟩ = some (.string l) := hk7.cell 5; have hl7 := hk7.lt; clear hG7 hgr7 hb7 hk7)
      | fail)
    go_cut [4] from 49 to 55 (fun v9 wx => ∃ (A : Option Addr) (n cp : Nat), v9 = .slice A n cp ∧ Below wz.heap.size wz wx ∧ TGrow wx wz.heap.size (.slice A n cp) (tpieces f any l))
    case first =>
      by_cases hf : l.toList.isEmpty = true
      · have hf2 : fullB l = false := by unfold fullB; rw [hf]; rfl
        rw [hf]
        go_wp2_with fail
        go_meet
        exact ⟨A7, _, c7, rfl, HB7.out, by unfold tpieces; rw [hf2, ← HFS.out]; simpa using HG7.out⟩
      · have hf' : l.toList.isEmpty = false := by simpa using hf
        have hf2 : fullB l = true := by unfold fullB; rw [hf']; rfl
        clear hf
        rw [hf']
        have hd7 : (fs ++ any.map (town 1)).length ≤ 1000001 := by have := HN.out; simp only [List.length_append, List.length_map]; omega
        go_wp2_with (first
          | (go_at_call 66; refine (own_t 2 l _ rfl HZ4.out).mono ?_; rintro e w1 ⟨hb1, cs1, rfl, ht1⟩; obtain ⟨a0, a1, a2, a3, aA, an, ac, rfl⟩ := tlAt_form ht1; have hs1 := hb1.size; have hs7 := HB7.out.size; have HB1 := Lib.hid hb1; have HT1 := Lib.hid (leaf_free ht1); clear hb1 ht1)
          | (at_builtin; refine wpList_append_row rfl (.tmp 50) (.tmp 54) rfl rfl wz.heap.size (.slice A7 n7 c7) (fs ++ any.map (town 1)) rfl (GRow.below tlL_stable (GRow.below tlL_stable HG7.out HB1.out) ((Below.refl _ _).alloc (Nat.le_refl _) _)) ⟨some ⟨w1.heap.size, 0, none⟩, 1, 1⟩ [town 2 l] rfl (one_row (Bk.new w1 _ _) ⟨by omega, fun e => by have := (GRow.lt HG7.out _ e).2; omega⟩ (HT1.out _ _)) (by simp only [List.length_singleton]; omega) (by simp; omega) ?_; intro A8 n8 c8 w8 hG8 hgr8; have HG8 := Lib.hid hG8; have hb8 := ((HB7.out.trans (HB1.out.mono hs7)).alloc (by omega) _).grown hgr8 (by simp; omega) (fun x hx => (GRow.lt HG7.out x hx).1); have HB8 := Lib.hid hb8; clear hG8 hgr8 hb8)
          | fail)
        go_meet
        exact ⟨A8, _, c8, rfl, HB8.out, by unfold tpieces; rw [hf2, ← HFS.out]; simpa using HG8.out⟩
    case rest =>
      obtain ⟨A9, n9, cp9, rfl, hb9, hG9⟩ := hcut
      have hk9 := bk_below HBX.out hb9
      have p1 : wc.cell? ⟨w.heap.size, 1, none⟩ = some (.string a) := hk9.cell 1
      have hl9 := hk9.lt
      have HB9 := Lib.hid hb9
      have HG9 := Lib.hid hG9
      clear hk9 hb9 hG9
      go_wp2_with (first
        | (go_at_call 41; refine (text_t a _ HZ1.out).mono ?_; rintro e w1 ⟨hb1, cs1, rfl, ht1⟩; obtain ⟨a0, a1, a2, a3, aA, an, ac, rfl⟩ := tlAt_form ht1; have HB1 := Lib.hid hb1; have HT1 := Lib.hid (leaf_free ht1); clear hb1 ht1)
        | (go_at_call 17; refine (list_t _ _ _ _).mono ?_; rintro e w2 ⟨rfl, hb2⟩; have hn2 := HB9.out.trans ((HB1.out.trans (hb2.mono HB1.out.size)).mono HB9.out.size); have HN2 := Lib.hid hn2; have HN3 := Lib.hid (hn2.alloc hn2.size (.cells #[.int .i64 a0, .bool a1, .int .i64 a2, .string a3, .slice aA an ac, .int .i64 0, .bool true, .int .i64 16, .string ⟨#[]⟩, .slice A9 n9 cp9] 38)); have HGL := Lib.hid (GRow.below tlL_stable (GRow.below tlL_stable HG9.out HB1.out) hb2);
            have hg2 := bk_below HW.out.val hn2; have y4 : w2.cell? ⟨w.heap.size + 1 + 1, 4, none⟩ = some (.slice none 0 0) := hg2.cell 4; have y4f : w2.frozen? ⟨w.heap.size + 1 + 1, 4, none⟩ = false := hg2.frozen 4; have y4l : w.heap.size + 1 + 1 < w2.heap.size := hg2.lt;
            have hg8 := (hg2.alloc (.cells #[.int .i64 a0, .bool a1, .int .i64 a2, .string a3, .slice aA an ac, .int .i64 0, .bool true, .int .i64 16, .string ⟨#[]⟩, .slice A9 n9 cp9] 38)).put 4 (.slice (some ⟨w2.heap.size, 0, none⟩) 2 2); have hz8 := (bk_below HW.out.res HN3.out).far (p := ⟨w.heap.size + 1 + 1, 4, none⟩) (by simp) (.slice (some ⟨w2.heap.size, 0, none⟩) 2 2); have HOF8 := Lib.hid ((Off.refl [w.heap.size + 1, w.heap.size + 2] _).setCell (w := w2.alloc (.cells #[.int .i64 a0, .bool a1, .int .i64 a2, .string a3, .slice aA an ac, .int .i64 0, .bool true, .int .i64 16, .string ⟨#[]⟩, .slice A9 n9 cp9] 38)) (p := ⟨w.heap.size + 1 + 1, 4, none⟩) (.inl (by simp)) (.slice (some ⟨w2.heap.size, 0, none⟩) 2 2));
            rw [show w.heap.size + 2 = w.heap.size + 1 + 1 from rfl, World.setCell_alloc_past _ _ _ _ y4l] at hg8; rw [World.setCell_alloc_past _ _ _ _ y4l] at hz8 HOF8;
            have e0 := hg8.cell 0; have e1 := hg8.cell 1; have e2 := hg8.cell 2; have e3 := hg8.cell 3; have e4 := hg8.cell 4; have elt := hg8.lt; have HZ8 := Lib.hid hz8; clear hz8 hg8 hg2 hn2 hb2)
        | (refine wpList_store_wide rfl 38 (.tmp 2) (.tmp 63) rfl (w.heap.size + 1) rfl #[.int .i64 2, .bool true, .int .i64 4, .string ⟨#[]⟩, .slice (some ⟨w2.heap.size, 0, none⟩) 2 2] rfl 38 tz5 HZ8.out rfl (by kernel_rfl) (by simp [Value.oneCell']) (fun w9 hbk9 hof9 => ?_); have HOF9 := Lib.hid hof9; have r0 := hbk9.cell 0; have r1 := hbk9.cell 1; have r2 := hbk9.cell 2; have r3 := hbk9.cell 3; have r4 := hbk9.cell 4)
        | fail)
      have HROW := Lib.hid (lit_row (w8 := w2) (B := wz.heap.size) (n := 2) (ts := [tstr a, tlist (tpieces f any l)]) [[.int .i64 a0, .bool a1, .int .i64 a2, .string a3, .slice aA an ac], [.int .i64 0, .bool true, .int .i64 16, .string ⟨#[]⟩, .slice A9 n9 cp9]] #[.int .i64 a0, .bool a1, .int .i64 a2, .string a3, .slice aA an ac, .int .i64 0, .bool true, .int .i64 16, .string ⟨#[]⟩, .slice A9 n9 cp9] HN2.out.size rfl
        ⟨⟨rfl, HT1.out _ _⟩, ⟨rfl, grow_at 0 16 HGL.out rfl rfl⟩, trivial⟩ rfl (by omega))
      exact bodyPost_ret (v := .agg #[.int .i64 2, .bool true, .int .i64 4, .string ⟨#[]⟩, .slice (some ⟨w2.heap.size, 0, none⟩) 2 2]) (by simp [results, Tryd.results80, go_sem, r0, r1, r2, r3, r4]) rfl (HW.out.done (q := ⟨some ⟨w2.heap.size, 0, none⟩, 2, 2⟩) HN3.out HROW.out HWF.out (HOF8.out.trans (HOF9.out.mono (by simp))))
mutual
/-- A filter with rows that are not too long. -/
def Fl.slim : Fl → Prop
  | .mk _ _ _ _ any _ kids => any.length ≤ 1000000 ∧ kids.length ≤ 1000000 ∧ Fl.slims kids
def Fl.slims : List Fl → Prop
  | [] => True
  | k :: ks => k.slim ∧ Fl.slims ks
end
/-- A filter's value. -/
def FilDo (f : Fl) : Prop := ∀ (c : List Value) (S : Nat → Prop) (w : World), FlAt w S f c → Calls Tryd.prog 80 #[.agg c.toArray] w (RetT (ftree f) w)
mutual
theorem fil_do : ∀ (f : Fl) (d x : Int), 0 ≤ f.cnt d x → f.slim → FilDo f
  | .mk k a v g any l kids, d, x, hc, hs => by
    intro c S w h
    obtain ⟨ho, hk⟩ := Fl.cnt_one hc
    have ih := fils_do kids (d + 1) (x - 1) hk hs.2.2
    simp only [Fl.one] at ho
    unfold ftree
    by_cases h01 : k = 0 ∨ k = 1
    · rw [if_pos (by omega)]
      exact fil_many k a v g any l kids c S w h (by omega) hs.2.1 (fun y hy W c hat => ih y hy c S W hat)
    rw [if_neg h01] at ho
    by_cases h2 : k = 2
    · rw [if_pos (by omega)]
      exact fil_many k a v g any l kids c S w h (by omega) hs.2.1 (fun y hy W c hat => ih y hy c S W hat)
    rw [if_neg h2] at ho
    rw [if_neg (by omega)]
    by_cases h3 : k = 3 ∨ k = 5 ∨ k = 6 ∨ k = 8
    · rw [if_neg (by omega), if_neg (by omega)]
      exact fil_pair k a v g any l kids c S w h h3
    rw [if_neg h3] at ho
    by_cases h7 : k = 7
    · subst h7
      rw [if_pos rfl]
      exact fil_has a v g any l kids c S w h
    rw [if_neg h7] at ho ⊢
    by_cases h4 : k = 4
    · subst h4
      rw [if_pos rfl]
      exact fil_part a v g any l kids c S w h hs.1
    · rw [if_neg h4] at ho
      cases ho
theorem fils_do : ∀ (ks : List Fl) (d x : Int), 0 ≤ Fl.cnts ks d x → Fl.slims ks → ∀ y ∈ ks, FilDo y
  | [], _, _, _, _, y, hy => by cases hy
  | k :: ks, d, x, hc, hs, y, hy => by
    unfold Fl.cnts at hc
    by_cases hn : k.cnt d x < 0
    · rw [if_pos hn] at hc; omega
    · rw [if_neg hn] at hc
      have h1 := fil_do k d x (by omega) hs.1
      have h2 := fils_do ks d _ hc hs.2
      rcases List.mem_cons.1 hy with rfl | hy
      · exact h1
      · exact h2 y hy
end
mutual
theorem Fl.cnt_slim : ∀ (f : Fl) (d x : Int), 0 ≤ f.cnt d x → x ≤ 1000000 → f.slim ∧ f.cnt d x < x
  | .mk k a v g any l kids, d, x, hc, hx => by
    obtain ⟨ho, hk⟩ := Fl.cnt_one hc
    have ih := Fl.cnts_slim kids (d + 1) (x - 1) hk (by omega)
    have hany : any.length ≤ 8 := by
      simp only [Fl.one] at ho
      by_cases h01 : k = 0 ∨ k = 1
      · rw [if_pos h01] at ho; have := (plainB_no ho).2.2.2.1; omega
      rw [if_neg h01] at ho
      by_cases h2 : k = 2
      · rw [if_pos h2] at ho; simp only [Bool.and_eq_true] at ho; have := (plainB_no ho.1).2.2.2.1; omega
      rw [if_neg h2] at ho
      by_cases h3 : k = 3 ∨ k = 5 ∨ k = 6 ∨ k = 8
      · rw [if_pos h3] at ho; simp only [Bool.and_eq_true] at ho; have := (plainB_no ho.1).2.2.2.1; omega
      rw [if_neg h3] at ho
      by_cases h7 : k = 7
      · rw [if_pos h7] at ho; simp only [Bool.and_eq_true] at ho; have := (plainB_no ho.1).2.2.2.1; omega
      rw [if_neg h7] at ho
      by_cases h4 : k = 4
      · rw [if_pos h4] at ho; simp only [Bool.and_eq_true, decide_eq_true_eq] at ho; exact ho.2.1
      · rw [if_neg h4] at ho; cases ho
    have he : Fl.cnt (.mk k a v g any l kids) d x = Fl.cnts kids (d + 1) (x - 1) := by
      unfold Fl.cnt at hc ⊢
      by_cases hn : x - 1 < 0 ∨ 8 < d ∨ Fl.one (.mk k a v g any l kids) = false
      · rw [if_pos hn] at hc; omega
      · rw [if_neg hn]
    refine ⟨?_, by rw [he]; have := ih.2.1; have := ih.2.2; omega⟩
    unfold Fl.slim
    exact ⟨by omega, by have := ih.2.2; omega, ih.1⟩
theorem Fl.cnts_slim : ∀ (ks : List Fl) (d x : Int), 0 ≤ Fl.cnts ks d x → x ≤ 1000000 → Fl.slims ks ∧ Fl.cnts ks d x ≤ x ∧ (ks.length : Int) ≤ x - Fl.cnts ks d x
  | [], _, x, h, hx => by unfold Fl.cnts Fl.slims; simp
  | k :: ks, d, x, hc, hx => by
    unfold Fl.cnts at hc ⊢
    by_cases hn : k.cnt d x < 0
    · rw [if_pos hn] at hc; omega
    · rw [if_neg hn] at hc ⊢
      have h1 := Fl.cnt_slim k d x (by omega) hx
      have h2 := Fl.cnts_slim ks d _ hc (by omega)
      unfold Fl.slims
      refine ⟨⟨h1.1, h2.1⟩, by omega, ?_⟩
      have := h1.2
      have := h2.2.2
      simp
      omega
end
/-- A filter that may be, as a value. -/
theorem fil_right (f : Fl) (h : f.right = true) : FilDo f := by
  have hc : 0 ≤ f.cnt 1 40 := by simpa [Fl.right] using h
  exact fil_do f 1 40 hc (Fl.cnt_slim f 1 40 hc (by omega)).1
end Go.Proofs.YtbiglfpikfjbpaaDoor

import Derived.Test.YtjbcbnemdhbhbaaGreatDoorG1
import Derived.LoopN
import Derived.BigRegion
import Derived.Test.YtjbcbnemdhbhbaaGreatDoorG24
import Derived.Defers
import Derived.Test.YtjbcbnemdhbhbaaGreatDoorG18
import Derived.Test.YtjbcbnemdhbhbaaGreatDoorG12
namespace Go.Proofs.YtjbcbnemdhbhbaaGreatDoor
open Go.RowKit
set_option maxRecDepth 100000
set_option linter.unusedVariables false
set_option linter.unusedSimpArgs false
theorem cnew_zero (T : TypeId) (v : Value) (w : World) : Calls Tryz.prog 75 #[.iface T v, .int .i64 0] w (fun e w' => e = .returned (.pointer (some ⟨w.heap.size, 0, none⟩)) ∧ Bk w' w.heap.size 215 #[.iface T v, .int .i64 0, .slice none 0 0] ∧ Below w.heap.size w w') := by
 go_enter Tryz.func75, Tryz.ntmps75
 go_wp2_with fail
 go_ret
 exact ⟨rfl, Bk.new w _ _, (Below.refl _ w).alloc (Nat.le_refl _) _⟩
set_option maxHeartbeats 4000000 in
theorem cfirst_zero (v : Value) (c : Nat) (w : World) (h : Bk w c 215 #[v, .int .i64 0, .slice none 0 0]) : Calls Tryz.prog 76 #[.pointer (some ⟨c, 0, none⟩)] w (fun e w' => e = .returned (.tuple #[.bool false, .int .i64 0]) ∧ Off [c] w w') := by
 have HB : Hid (∀ f : Value, Calls Tryz.prog 137 #[.pointer (some ⟨c, 0, none⟩), f] w (fun e w' => e = .returned (.tuple #[.bool false, .int .i64 0]) ∧ Off [c] w w')) := fun f => by
   have c1 := h.cell 1
   have c2 := h.cell 2
   have f2 := h.frozen 2
   have lc := h.lt
   clear h
   go_enter Tryz.func137, Tryz.ntmps137
   go_wp2_with fail
   go_ret2
   exact ⟨rfl, (Off.refl [c] w).setCell (p := ⟨c, 2, none⟩) (.inl (by simp)) _⟩
 clear h
 go_enter Tryz.func76, Tryz.ntmps76
 go_wp2_with fail
 refine (HB.out _).mono ?_
 rintro e w1 ⟨rfl, hb⟩
 have HE := Lib.hid hb
 clear hb
 go_wp2_with fail
 go_ret2
 exact ⟨rfl, HE.out⟩
theorem grow_zero (w : World) : Calls Tryz.prog 136 #[.slice none 0 0, .int .i64 0] w (fun e w' => e = .returned (.slice none 0 0) ∧ w = w') := by
 go_enter Tryz.func136, Tryz.ntmps136
 go_wp2_with fail
 go_ret
 exact ⟨rfl, rfl⟩
set_option maxHeartbeats 16000000 in
theorem snames_ok {w : World} {b q r f g sp : Nat} {P : PgS} {s : St} {i t ff p l : Int} (h : Db w b q r f g P s) (hs : SnapAt w sp b i ⟨t, 0, ff, p, l⟩ false) : Calls Tryz.prog 90 #[.pointer (some ⟨sp, 0, none⟩)] w (fun e w' => e = .returned (.tuple #[.slice none 0 0, .int .i64 0]) ∧ Below w.heap.size w w') := by
 have HM := Lib.hid (smay_ok hs)
 have ls := Bk.lt hs
 have lb := h.top.lt
 have HKS := Lib.hid (show ∀ W, Below w.heap.size w W → W.cell? ⟨sp, 0, none⟩ = some (.pointer (some ⟨b, 0, none⟩)) ∧ W.cell? ⟨b, 0, none⟩ = some (.pointer (some ⟨q, 0, none⟩)) ∧ W.cell? ⟨sp, 3, none⟩ = some (.int .i64 0) from fun W hW => ⟨(bk_below hs hW).cell 0, (bk_below h.top hW).cell 0, (bk_below hs hW).cell 3⟩)
 have HN := Lib.hid fun (T : TypeId) (v : Value) (W : World) => cnew_zero T v W
 clear h hs
 go_enter Tryz.func90, Tryz.ntmps90
 go_wp2_with fail
 refine HM.out.mono ?_
 rintro e w1 ⟨rfl, rfl⟩
 go_wp2_with fail
 go_region_held3 (fun W => W.cell? ⟨sp, 0, none⟩ = some (.pointer (some ⟨b, 0, none⟩)) ∧ W.cell? ⟨b, 0, none⟩ = some (.pointer (some ⟨q, 0, none⟩)) ∧ W.cell? ⟨sp, 3, none⟩ = some (.int .i64 0)) (first | exact HKS.out _ (Below.refl _ _).drew | exact HKS.out _ hk3.out) (first
   | (go_at_call 75; refine (HN.out _ _ _).mono ?_; rintro e w3 ⟨rfl, hc3, hb3⟩; have HC3 := Lib.hid hc3; have hk3 := Lib.hid ((Below.refl w.heap.size w).drew.trans (hb3.mono (by simp))); clear hc3 hb3)
   | fail)
 all_goals
   have lc3 := HC3.out.lt
   go_wp2_with fail
   refine (cfirst_zero _ _ _ HC3.out).mono ?_
   rintro e w4 ⟨rfl, ho4⟩
   have HO4 := Lib.hid ho4
   clear ho4
   go_wp2_with fail
   refine wp_loop_rounds 2 ?_
   rw [rounds_succ]
   go_wp2_with fail
   go_ret2
   exact ⟨rfl, ((Off.of_below hk3.out []).then HO4.out (fun x hx => by rw [List.mem_singleton] at hx; subst hx; exact .inr (by simp))).below (Nat.le_refl _) (by simp)⟩
theorem kvformat_any {L : Ending → World → Prop} {a : Value} {n : Int} {w : World} (h : Calls Tryz.prog 98 #[a, .int .i64 n] w (fun e w' => (∃ x : Int, e = .returned (.int .i64 x)) ∧ L e w')) : Calls Tryz.prog 42 #[a, .int .i64 n] w L := by
 have H := Lib.hid h
 clear h
 go_enter Tryz.func42, Tryz.ntmps42
 go_wp2_with fail
 refine H.out.mono ?_
 rintro e w1 ⟨⟨v, rfl⟩, hl⟩
 have HL := Lib.hid hl
 clear hl
 go_wp2_with fail
 exact HL.out
set_option maxHeartbeats 4000000 in
theorem anames_ok {w : World} {b q r f g sp : Nat} {P : PgS} {s : St} {i t ff p l : Int} (h : Db w b q r f g P s) (hs : SnapAt w sp b i ⟨t, 0, ff, p, l⟩ false) : Calls Tryz.prog 35 #[.pointer (some ⟨sp, 0, none⟩)] w (fun e w' => e = .returned (.tuple #[.slice none 0 0, .int .i64 0]) ∧ Below w.heap.size w w') := by
 have HM := Lib.hid (snames_ok h hs)
 clear h hs
 go_enter Tryz.func35, Tryz.ntmps35
 go_wp2_with fail
 refine HM.out.mono ?_
 rintro e w1 ⟨rfl, hb⟩
 have HB := Lib.hid hb
 clear hb
 go_wp2_with fail
 go_ret2
 exact ⟨rfl, HB.out⟩
set_option maxHeartbeats 4000000 in
theorem each_ok {w : World} {b q r f g sp : Nat} {P : PgS} {s : St} {i t ff p l : Int} (v : Value) (h : Db w b q r f g P s) (hs : SnapAt w sp b i ⟨t, 0, ff, p, l⟩ false) : Calls Tryz.prog 87 #[.pointer (some ⟨sp, 0, none⟩), v] w (fun e w' => e = .returned (.int .i64 0) ∧ Below w.heap.size w w') := by
 have HM := Lib.hid (anames_ok h hs)
 clear h hs
 go_enter Tryz.func87, Tryz.ntmps87
 go_wp2_with fail
 refine HM.out.mono ?_
 rintro e w1 ⟨rfl, hb⟩
 have HB := Lib.hid hb
 clear hb
 go_wp2_with fail
 refine wp_loop_rounds 2 ?_
 rw [rounds_succ]
 go_wp2_with fail
 go_ret
 exact ⟨rfl, HB.out⟩
def repCells (t : Int) : Array Value := #[.int .i64 t, .int .i64 0, .int .i64 0, .int .i64 0, .int .i64 0, .int .i64 0, .int .i64 0, .int .i64 0]
theorem Db.old {w : World} {b q r f g : Nat} {P : PgS} {s : St} (h : Db w b q r f g P s) : ∀ x ∈ [b, q, r, f], x < w.heap.size := fun x hx => by
 obtain ⟨cs, hp⟩ := h.pgCell
 obtain ⟨fcs, h1, -⟩ := h.fr
 simp only [List.mem_cons, List.not_mem_nil, or_false] at hx
 rcases hx with rfl | rfl | rfl | rfl
 · exact h.top.lt
 · exact hp.lt
 · exact h.rd.lt
 · exact h1.lt
def repOf (b q r f g sp : Nat) (P : PgS) (s : St) (i : Int) (R : Nat) (w W : World) : Prop := Db W b q r f g P s ∧ SnapAt W sp b i ⟨1, 0, 0, 1, 20⟩ false ∧ Bk W R 69 (repCells 0) ∧ Off [r] w W
theorem repOf.names {b q r f g sp : Nat} {P : PgS} {s : St} {i : Int} {R : Nat} {w W : World} (h : repOf b q r f g sp P s i R w W) : Calls Tryz.prog 35 #[.pointer (some ⟨sp, 0, none⟩)] W (fun e w' => e = .returned (.tuple #[.slice none 0 0, .int .i64 0]) ∧ Below W.heap.size W w') := anames_ok h.1 h.2.1
theorem repOf.each {b q r f g sp : Nat} {P : PgS} {s : St} {i : Int} {R : Nat} {w W : World} (h : repOf b q r f g sp P s i R w W) (v : Value) : Calls Tryz.prog 87 #[.pointer (some ⟨sp, 0, none⟩), v] W (fun e w' => e = .returned (.int .i64 0) ∧ Below W.heap.size W w') := each_ok v h.1 h.2.1
theorem repOf.below {b q r f g sp : Nat} {P : PgS} {s : St} {i : Int} {R : Nat} {w W W' : World} (h : repOf b q r f g sp P s i R w W) (hb : Below W.heap.size W W') : repOf b q r f g sp P s i R w W' :=
 ⟨h.1.below hb, bk_below h.2.1 hb, bk_below h.2.2.1 hb, h.2.2.2.trans (Off.of_below hb [r])⟩
def TellsGI (n : Nat) (w : World) (e : Ending) (w' : World) : Prop := Below w.heap.size w w' ∧ ∃ v, e = .returned v ∧ w'.ownsRow w.heap.size 3 1 v 0 []
set_option maxHeartbeats 4000000 in
theorem growi_pos (n : Nat) (w : World) (h0 : 0 < n) (hn : n ≤ 10000) : Calls Tryz.prog 136 #[.slice none 0 0, .int .i64 n] w (TellsGI n w) := by
 obtain ⟨i0, hi, iz0, iz1, iz2⟩ := info_parts info_int
 have z1 : decide ((n : Int) < 0) = false := decide_eq_false (by omega)
 have z2 : decide ((0 : Int) < (n : Int)) = true := decide_eq_true (by omega)
 have hbd := nextslicecap_le_wide (need := 0 + n) (old := 0) (by omega)
 have HAP := Lib.hid fun (W : World) => Lib.run_append_grow_zeros (P := Tryz.prog) W 51 3 51 3 i0 _ .i64 .i64 Tryz.underlying51 Tryz.underlying3 hi iz0 none 0 0 [] (by simp [Builtin.firstCells]) n h0 (by rw [iz1]; omega) (by omega) (by omega) (by rw [iz2]; omega) (by rw [iz2]; have := Nat.mul_le_mul_right 8 hbd; omega)
 have hap : ∀ W : World, ∃ c, n ≤ c ∧ ∃ cur : Array Value, cur.size = c * 1 ∧ c ≤ maxLen ∧ (Builtin.append_ #[51, 3] 51 #[.slice none 0 0, .int .i64 n]).run Tryz.prog W = .ok (.slice (some ⟨W.heap.size, 0, none⟩) n c) (W.drew.alloc (.cells cur 3)) := fun W => by
   have h := HAP.out W
   rw [Nat.zero_add] at h
   have hge := grownCap_ge W n 0 3
   refine ⟨_, hge, _, ?_, grownCap_le_maxLen W n 0 _ (by unfold maxLen; omega), h⟩
   have e5 : (Value.int .i64 0).cells.size = 1 := rfl
   simp only [Array.size_append, size_zeroCells, e5]
   simp
   omega
 obtain ⟨c, hc, cur, hcs, hcm, HW⟩ := hap w
 have HC := Lib.hid hcs
 have hcb : c ≤ 9223372036854775807 := by unfold maxLen at hcm; omega
 have HM := Lib.hid hcm
 have HWR := Lib.hid HW
 clear hbd hap hcs hcm HAP HW
 go_enter Tryz.func136, Tryz.ntmps136
 go_wp2_with (at_builtin; refine wpList_append_run rfl (.tmp 20) (.tmp 21) 51 3 rfl _ _ _ _ rfl rfl HWR.out ?_)
 go_ret
 refine ⟨(Below.refl _ w).drew.alloc (Nat.le_refl _) _, _, rfl, ?_⟩
 refine ⟨rfl, .inr ⟨w.heap.size, c, cur, rfl, Nat.le_refl _, ?_, Nat.zero_le _, HM.out, HC.out, rfl⟩⟩
 exact heap_alloc_new w.drew _
theorem growi_any (n : Nat) (w : World) (hn : n ≤ 10000) : Calls Tryz.prog 136 #[.slice none 0 0, .int .i64 n] w (TellsGI n w) := by
 by_cases h : 0 < n
 · exact growi_pos n w h hn
 · obtain rfl : n = 0 := by omega
   refine (grow_zero w).mono ?_
   rintro e w' ⟨rfl, rfl⟩
   exact ⟨Below.refl _ _, _, rfl, World.ownsRow_nil _ _ _ _⟩
set_option maxHeartbeats 16000000 in
theorem concat3_any {w : World} {k : Nat} {A0 A1 A2 : Option Addr} {c0 c1 c2 : Nat} {l0 l1 l2 : List Nat} (h : Bk w k 51 #[.slice A0 l0.length c0, .slice A1 l1.length c1, .slice A2 l2.length c2]) (h0 : Sl w A0 (ints l0)) (h1 : Sl w A1 (ints l1)) (h2 : Sl w A2 (ints l2)) (hl : l0.length + l1.length + l2.length ≤ 10000) :
   Calls Tryz.prog 74 #[.slice (some ⟨k, 0, none⟩) 3 3] w (fun e w' => Below w.heap.size w w' ∧ ∃ A c, e = .returned (.slice A (l0 ++ (l1 ++ l2)).length c) ∧ w'.ownsRow w.heap.size 3 1 (.slice A (l0 ++ (l1 ++ l2)).length c) (l0 ++ (l1 ++ l2)).length (ints (l0 ++ (l1 ++ l2)))) := by
 obtain ⟨i0, hi, iz0, iz1, iz2⟩ := info_parts info_int
 have q0 := h.cell 0
 have q1 := h.cell 1
 have q2 := h.cell 2
 have lk := h.lt
 have HK := Lib.hid h
 have HS0 := Lib.hid h0
 have HS1 := Lib.hid h1
 have HS2 := Lib.hid h2
 obtain ⟨n0, hn0⟩ : ∃ n, n = l0.length := ⟨_, rfl⟩
 obtain ⟨n1, hn1⟩ : ∃ n, n = l1.length := ⟨_, rfl⟩
 obtain ⟨n2, hn2⟩ : ∃ n, n = l2.length := ⟨_, rfl⟩
 rw [← hn0] at q0
 rw [← hn1] at q1
 rw [← hn2] at q2
 have HN0 := Lib.hid hn0
 have HN1 := Lib.hid hn1
 have HN2 := Lib.hid hn2
 have b0 : n0 ≤ 10000 := by omega
 have b1 : n0 + n1 ≤ 10000 := by omega
 have b2 : n0 + n1 + n2 ≤ 10000 := by omega
 have y0 : decide (((0 : Int) + (n0 : Int)) < 0) = false := decide_eq_false (by omega)
 have y1 : decide (((n0 : Int) + (n1 : Int)) < 0) = false := decide_eq_false (by omega)
 have y2 : decide (((n0 : Int) + (n1 : Int) + (n2 : Int)) < 0) = false := decide_eq_false (by omega)
 have HG := Lib.hid fun (W : World) => growi_any (n0 + n1 + n2) W b2
 clear h h0 h1 h2 hn0 hn1 hn2 hl
 go_enter Tryz.func74, Tryz.ntmps74
 go_wp2_with fail
 refine wp_loop_rounds 5 ?_
 rw [rounds_succ]
 go_wp2_with fail
 rw [rounds_succ]
 go_wp2_with fail
 rw [rounds_succ]
 go_wp2_with fail
 rw [rounds_succ]
 go_wp2_with fail
 refine (HG.out _).mono ?_
 rintro e w1 ⟨hb1, v0, rfl, hown0⟩
 have HB1 := Lib.hid hb1
 have hk1 := bk_below HK.out hb1
 have HO0 := Lib.hid hown0
 clear hb1 hown0
 have r0 := hk1.cell 0
 have lk1 := hk1.lt
 rw [← HN0.out] at r0
 clear hk1 q0 q1 q2 lk
 go_wp2_with fail
 refine wp_loop_rounds 5 ?_
 rw [rounds_succ]
 go_wp2_with (at_builtin; refine wpList_append_sl _ rfl (.tmp 31) (.tmp 32) 51 rfl w.heap.size 3 i0 (.int .i64 0) 8 Tryz.underlying51 hi iz0 iz1 iz2 rfl v0 0 [] rfl HO0.out A0 n0 c0 (ints l0) (by rw [HN0.out, ints_len]) rfl (HS0.out.below HB1.out) (ints_one l0) (by unfold maxLen; omega) (by omega) HB1.out.size ?_; intro v1 w2 hown hgrow hiff)
 have HO1 := Lib.hid hown
 have HB2 := Lib.hid (((Off.of_below HB1.out []).grown hgrow (fun g hg => .inr (HO0.out.lt g hg).1)).below (Nat.le_refl _) (by simp))
 have hk2 := bk_below HK.out HB2.out
 have r1 := hk2.cell 1
 rw [← HN1.out] at r1
 have lk2 := hk2.lt
 clear hown hgrow hiff hk2 r0 lk1
 go_wp2_with fail
 rw [rounds_succ]
 go_wp2_with (at_builtin; refine wpList_append_sl _ rfl (.tmp 31) (.tmp 32) 51 rfl w.heap.size 3 i0 (.int .i64 0) 8 Tryz.underlying51 hi iz0 iz1 iz2 rfl v1 (0 + n0) ([] ++ ints l0) rfl HO1.out A1 n1 c1 (ints l1) (by rw [HN1.out, ints_len]) rfl (HS1.out.below HB2.out) (ints_one l1) (by unfold maxLen; omega) (by omega) HB2.out.size ?_; intro v2 w3 hown hgrow hiff)
 have HO2 := Lib.hid hown
 have HB3 := Lib.hid (((Off.of_below HB2.out []).grown hgrow (fun g hg => .inr (HO1.out.lt g hg).1)).below (Nat.le_refl _) (by simp))
 have hk3 := bk_below HK.out HB3.out
 have r2 := hk3.cell 2
 rw [← HN2.out] at r2
 have lk3 := hk3.lt
 clear hown hgrow hiff hk3 r1 lk2
 go_wp2_with fail
 rw [rounds_succ]
 go_wp2_with (at_builtin; refine wpList_append_sl _ rfl (.tmp 31) (.tmp 32) 51 rfl w.heap.size 3 i0 (.int .i64 0) 8 Tryz.underlying51 hi iz0 iz1 iz2 rfl v2 (0 + n0 + n1) ([] ++ ints l0 ++ ints l1) rfl HO2.out A2 n2 c2 (ints l2) (by rw [HN2.out, ints_len]) rfl (HS2.out.below HB3.out) (ints_one l2) (by unfold maxLen; omega) (by omega) HB3.out.size ?_; intro v3 w4 hown hgrow hiff)
 have HO3 := Lib.hid hown
 have HB4 := Lib.hid (((Off.of_below HB3.out []).grown hgrow (fun g hg => .inr (HO2.out.lt g hg).1)).below (Nat.le_refl _) (by simp))
 have hk4 := bk_below HK.out HB4.out
 have lk4 := hk4.lt
 clear hown hgrow hiff hk4 r2 lk3
 go_wp2_with fail
 rw [rounds_succ]
 go_wp2_with fail
 go_ret
 obtain ⟨A, c, hv, -⟩ := own_formK HO3.out
 subst hv
 have e1 : 0 + n0 + n1 + n2 = (l0 ++ (l1 ++ l2)).length := by rw [List.length_append, List.length_append, ← HN0.out, ← HN1.out, ← HN2.out]; omega
 have e2 : [] ++ ints l0 ++ ints l1 ++ ints l2 = ints (l0 ++ (l1 ++ l2)) := by simp [ints]
 have h9 := HO3.out
 rw [e2, e1] at h9
 exact ⟨HB4.out, A, c, congrArg (fun z => Ending.returned (.slice A z c)) e1, h9⟩
end Go.Proofs.YtjbcbnemdhbhbaaGreatDoor

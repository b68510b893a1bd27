import Derived.Test.YtjbcbnemdhbhbaaGreatDoorG29
import Derived.Test.YtjbcbnemdhbhbaaGreatDoorG3
import Derived.Deep.RegionHeld3
import Derived.Laws.Tables
import Derived.Test.YtjbcbnemdhbhbaaGreatDoorG1
import Derived.OrdersHeld
namespace Go.Proofs.YtjbcbnemdhbhbaaGreatDoor
open Go.RowKit
set_option maxRecDepth 100000
set_option linter.unusedVariables false
set_option linter.unusedSimpArgs false
theorem run_loadVar_part {P : Program} (w : World) (g o : Nat) (t ty : TypeId) (cs part : Array Value) (fr : Nat × Nat) (d : TypeDesc) (hg : w.heap[g]? = some (.cells cs t fr)) (hp : ∀ (j : Nat) (v : Value), part[j]? = some v → cs[o + j]? = some v)
   (hu : P.underlying ty = some d) (hd : (match d with | .struct _ | .array _ _ => true | _ => false) = true) (hi : (P.info? ty).map (·.size) = some part.size) :
   (loadVar ty ⟨g, o, none⟩).run P w = .ok (.agg part) w := by
 have hl : (loadCells ⟨g, o, none⟩ part.toList.length).run P w = .ok part.toList.toArray w :=
   run_loadCells_list (P := P) w ⟨g, o, none⟩ part.toList (fun j v hv => by
     have hadd : (⟨g, o, none⟩ : Addr).add j = ⟨g, o + j, none⟩ := addr_add g o j
     rw [hadd, cell_of_row w g (o + j) cs t fr hg]
     exact hp j v (by simpa using hv))
 cases hq : P.info? ty with
 | none => simp [hq] at hi
 | some i =>
   have hs : i.size = part.size := by simpa [hq] using hi
   have hagg : (isAgg ty).run P w = .ok true w := by
     unfold isAgg
     rw [Sem.run_bind, run_underlying hu w]
     cases d <;> simp_all
   simp only [Array.length_toList, Array.toArray_toList] at hl
   simp [loadVar, Sem.run_bind, hagg, sizeOf, typeInfo, hq, hs, hl]
theorem exec_load_part {P : Program} (ev : Operand → Value) (op : Oper) (ty : TypeId) (x : Operand) {w : World} {g o : Nat} {t : TypeId} {cs part : Array Value} {fr : Nat × Nat} {d : TypeDesc} (ho : op.op = .load ty x) (hx : ev x = .pointer (some ⟨g, o, none⟩)) (hg : w.heap[g]? = some (.cells cs t fr)) (hp : ∀ (j : Nat) (v : Value), part[j]? = some v → cs[o + j]? = some v)
   (hu : P.underlying ty = some d) (hd : (match d with | .struct _ | .array _ _ => true | _ => false) = true) (hi : (P.info? ty).map (·.size) = some part.size) : (execOp ev op).run P w = .ok (.value (.agg part)) w := by
 unfold execOp
 simp only [ho, hx, Instr.loadAt, Instr.sureAddr, Sem.run_bind, Sem.run_pure, Result.andThen_ok, run_loadVar_part w g o t ty cs part fr d hg hp hu hd hi]
theorem here_part (A : Option Addr) (c : Nat) (l : List (Nat × Nat)) : ∀ (j : Nat) (v : Value), (hereV l).toArray[j]? = some v → (flCells A c l)[1 + j]? = some v := fun j v h => by
 rw [Nat.add_comm]
 simpa [flCells] using h
set_option maxRecDepth 1000000 in
theorem built_fl (A : Option Addr) (c : Nat) (l : List (Nat × Nat)) : Tryz.prog.built 165 [(0, .slice A l.length c), (1, .agg (hereV l).toArray)] = some (flCells A c l) := by kernel_rfl
section
variable {P : Program} {ops : Array Oper} {md : Region.Mode} {S : World → Prop}
end
def CopyPost (l : List (Nat × Nat)) (w : World) (e : Ending) (w' : World) : Prop := ∃ f' S', e = .returned (.pointer (some ⟨f', 0, none⟩)) ∧ FLO w' f' S' l ∧ Below w.heap.size w w' ∧ (∀ b ∈ S', w.heap.size ≤ b)
theorem exec_build_fl (ev : Operand → Value) (op : Oper) (x y : Operand) (A : Option Addr) (c : Nat) (l : List (Nat × Nat)) (w : World) (ho : op.op = .build 165 #[(0, x), (1, y)]) (hx : ev x = .slice A l.length c) (hy : ev y = .agg (hereV l).toArray) : (execOp ev op).run Tryz.prog w = .ok (.value (.agg (flCells A c l))) w := by
 unfold execOp
 simp only [ho, List.map_toArray, List.map_cons, List.map_nil, hx, hy]
 have h := run_build w 165 #[(0, .slice A l.length c), (1, .agg (hereV l).toArray)] (flCells A c l) (built_fl A c l)
 simp only [Sem.run_bind, h, Result.andThen_ok, Sem.run_pure]
set_option maxHeartbeats 8000000 in
theorem fcopy_any {w : World} {f : Nat} {S : List Nat} {l : List (Nat × Nat)} (h : FL w f S l) (hl : l.length ≤ 10000) :
   Calls Tryz.prog 44 #[.pointer (some ⟨f, 0, none⟩)] w (CopyPost l w) := by
 obtain ⟨⟨A, c, h1, h2, h3, h4, h5, h8⟩, h6, h7⟩ := h
 have H1 := Lib.hid h1
 have HC := Lib.hid (fclone_any (w := w.drew) (by exact h2) h3 h4 hl h8)
 have HKS := Lib.hid fun (W : World) (hW : Below w.heap.size w W) => (show W.heap[f]? = some (.cells (flCells A c l) 165 (0, 0)) from bk_below h1 hW)
 have HSI := Lib.hid (show (Tryz.prog.info? 163).map (·.size) = some (hereV l).toArray.size by rw [List.size_toArray, hereV, List.length_map, Fr.here_len]; kernel_rfl)
 obtain ⟨n, hn⟩ : ∃ n, n = l.length := ⟨_, rfl⟩
 have HN := Lib.hid hn
 rw [← hn] at HC
 clear h1 h2 h3 h4 h5 h6 h7 h8 hl hn
 go_enter Tryz.func44, Tryz.ntmps44
 go_wp2_with fail
 refine wp_region_held_drew (S := fun W => W.heap[f]? = some (.cells (flCells A c l) 165 (0, 0))) (by kernel_rfl) (HKS.out _ (Below.refl _ _).drew) (fun hHeld => ?_)
 refine wpAnyH_take (i := 0) (oi := { dst := some 5, op := Op.move (Operand.tmp 0), type := 97, pos := "free.go:87", after := #[], guard := none }) (v := ?_) rfl (by kernel_rfl) (by kernel_rfl) (by kernel_rfl) (fun _ _ _ h => h) (Or.inl ⟨by rfl, ?_⟩) hHeld ?_
 rotate_left
 · intro w5 hSw
   have y0 : w5.cell? ⟨f, 0, none⟩ = some (.slice A n c) := by rw [HN.out]; exact (Bk.cell hSw 0).trans (flCells_zero A c l)
   have y1 := Bk.lt hSw
   go_simp
   (try with_reducible rfl)
 try simp only [Act.put, List.setIfInBounds_toArray, List.set_cons_zero, List.set_cons_succ]
 refine wpAnyH_take (i := 1) (oi := { dst := some 6, op := Op.nilCheck (Operand.tmp 5), type := 0, pos := "free.go:87", after := #[{ on := 0, ground := Ground.data }], guard := none }) (v := ?_) rfl (by kernel_rfl) (by kernel_rfl) (by kernel_rfl) (fun _ _ _ h => h) (Or.inl ⟨by rfl, ?_⟩) hHeld ?_
 rotate_left
 · intro w5 hSw
   have y0 : w5.cell? ⟨f, 0, none⟩ = some (.slice A n c) := by rw [HN.out]; exact (Bk.cell hSw 0).trans (flCells_zero A c l)
   have y1 := Bk.lt hSw
   go_simp
   (try with_reducible rfl)
 try simp only [Act.put, List.setIfInBounds_toArray, List.set_cons_zero, List.set_cons_succ]
 refine wpAnyH_take (i := 2) (oi := { dst := some 7, op := Op.fieldAddr 165 (Operand.tmp 6) 0, type := 0, pos := "free.go:87", after := #[{ on := 1, ground := Ground.data }], guard := none }) (v := ?_) rfl (by kernel_rfl) (by kernel_rfl) (by kernel_rfl) (fun _ _ _ h => h) (Or.inl ⟨by rfl, ?_⟩) hHeld ?_
 rotate_left
 · intro w5 hSw
   have y0 : w5.cell? ⟨f, 0, none⟩ = some (.slice A n c) := by rw [HN.out]; exact (Bk.cell hSw 0).trans (flCells_zero A c l)
   have y1 := Bk.lt hSw
   go_simp
   (try with_reducible rfl)
 try simp only [Act.put, List.setIfInBounds_toArray, List.set_cons_zero, List.set_cons_succ]
 refine wpAnyH_take (i := 3) (oi := { dst := some 8, op := Op.load 49 (Operand.tmp 7), type := 49, pos := "free.go:87", after := #[{ on := 2, ground := Ground.data }], guard := none }) (v := ?_) rfl (by kernel_rfl) (by kernel_rfl) (by kernel_rfl) (fun _ _ _ h => h) (Or.inl ⟨by rfl, ?_⟩) hHeld ?_
 rotate_left
 · intro w5 hSw
   have y0 : w5.cell? ⟨f, 0, none⟩ = some (.slice A n c) := by rw [HN.out]; exact (Bk.cell hSw 0).trans (flCells_zero A c l)
   have y1 := Bk.lt hSw
   go_simp
   (try with_reducible rfl)
 try simp only [Act.put, List.setIfInBounds_toArray, List.set_cons_zero, List.set_cons_succ]
 refine wpAnyH_take (i := 5) (oi := { dst := some 10, op := Op.move (Operand.tmp 0), type := 97, pos := "free.go:87", after := #[], guard := none }) (v := ?_) rfl (by kernel_rfl) (by kernel_rfl) (by kernel_rfl) (fun _ _ _ h => h) (Or.inl ⟨by rfl, ?_⟩) hHeld ?_
 rotate_left
 · intro w5 hSw
   have y0 : w5.cell? ⟨f, 0, none⟩ = some (.slice A n c) := by rw [HN.out]; exact (Bk.cell hSw 0).trans (flCells_zero A c l)
   have y1 := Bk.lt hSw
   go_simp
   (try with_reducible rfl)
 try simp only [Act.put, List.setIfInBounds_toArray, List.set_cons_zero, List.set_cons_succ]
 refine wpAnyH_take (i := 6) (oi := { dst := some 11, op := Op.nilCheck (Operand.tmp 10), type := 0, pos := "free.go:87", after := #[{ on := 5, ground := Ground.data }], guard := none }) (v := ?_) rfl (by kernel_rfl) (by kernel_rfl) (by kernel_rfl) (fun _ _ _ h => h) (Or.inl ⟨by rfl, ?_⟩) hHeld ?_
 rotate_left
 · intro w5 hSw
   have y0 : w5.cell? ⟨f, 0, none⟩ = some (.slice A n c) := by rw [HN.out]; exact (Bk.cell hSw 0).trans (flCells_zero A c l)
   have y1 := Bk.lt hSw
   go_simp
   (try with_reducible rfl)
 try simp only [Act.put, List.setIfInBounds_toArray, List.set_cons_zero, List.set_cons_succ]
 refine wpAnyH_take (i := 7) (oi := { dst := some 12, op := Op.fieldAddr 165 (Operand.tmp 11) 1, type := 0, pos := "free.go:87", after := #[{ on := 6, ground := Ground.data }], guard := none }) (v := ?_) rfl (by kernel_rfl) (by kernel_rfl) (by kernel_rfl) (fun _ _ _ h => h) (Or.inl ⟨by rfl, ?_⟩) hHeld ?_
 rotate_left
 · intro w5 hSw
   have y0 : w5.cell? ⟨f, 0, none⟩ = some (.slice A n c) := by rw [HN.out]; exact (Bk.cell hSw 0).trans (flCells_zero A c l)
   have y1 := Bk.lt hSw
   go_simp
   (try with_reducible rfl)
 try simp only [Act.put, List.setIfInBounds_toArray, List.set_cons_zero, List.set_cons_succ]
 refine wpAnyH_take (i := 8) (oi := { dst := some 13, op := Op.load 163 (Operand.tmp 12), type := 163, pos := "free.go:87", after := #[{ on := 7, ground := Ground.data }], guard := none }) (v := (.agg (hereV l).toArray)) rfl (by kernel_rfl) (by kernel_rfl) (by kernel_rfl) (fun _ _ _ h => h) (Or.inl ⟨by rfl, ?_⟩) hHeld ?_
 · intro w5 hSw
   exact exec_load_part _ _ _ _ rfl rfl hSw (here_part A c l) Tryz.underlying163 rfl HSI.out
 try simp only [Act.put, List.setIfInBounds_toArray, List.set_cons_zero, List.set_cons_succ]
 refine wpAnyH_ready (rs := [4]) (by kernel_rfl) (by simp) ?_
 refine AllReadyH.cons (o := { dst := some 9, op := Op.call { callee := Callee.value (Operand.func 102), args := #[Operand.tmp 8], argTypes := #[49] }, type := 49, pos := "free.go:87", after := #[{ on := 3, ground := Ground.data }], guard := none }) rfl (fun K hK => ?_) AllReadyH.nil
 go_simp
 (go_at_call 102)
 (with_reducible refine HC.out.mono ?_)
 rintro e w1 ⟨hb1, A3, c3, rfl, ho3⟩
 have HB1 := Lib.hid (show Below w.heap.size w w1 from (Below.refl _ w).drew.trans hb1)
 have HO3 := Lib.hid ho3
 clear hb1 ho3
 go_wp2_with fail
 refine hK _ _ (HKS.out _ HB1.out) (fun hHeld2 => ?_)
 clear hK K hHeld
 have hHeld := hHeld2
 clear hHeld2
 try simp only [Act.put, List.setIfInBounds_toArray, List.set_cons_zero, List.set_cons_succ]
 refine wpAnyH_take (i := 9) (oi := { dst := some 14, op := Op.build 165 #[(0, Operand.tmp 9), (1, Operand.tmp 13)], type := 165, pos := "free.go:87", after := #[{ on := 4, ground := Ground.data }, { on := 8, ground := Ground.data }], guard := none }) (v := (.agg (flCells A3 c3 l))) rfl (by kernel_rfl) (by kernel_rfl) (by kernel_rfl) (fun _ _ _ h => h) (Or.inl ⟨by rfl, ?_⟩) hHeld ?_
 · intro w5 hSw
   exact exec_build_fl _ _ _ _ A3 c3 l w5 rfl rfl rfl
 try simp only [Act.put, List.setIfInBounds_toArray, List.set_cons_zero, List.set_cons_succ]
 refine wpAnyH_ready (rs := [10]) (by kernel_rfl) (by simp) ?_
 refine AllReadyH.cons (o := { dst := some 15, op := Op.box 165 (Operand.tmp 14), type := 97, pos := "free.go:87", after := #[{ on := 9, ground := Ground.data }], guard := none }) rfl (fun K hK => ?_) AllReadyH.nil
 go_simp
 refine hK _ _ (HKS.out _ (HB1.out.alloc HB1.out.size _)) (fun hHeld2 => ?_)
 clear hK K hHeld
 have hHeld := hHeld2
 clear hHeld2
 try simp only [Act.put, List.setIfInBounds_toArray, List.set_cons_zero, List.set_cons_succ]
 refine wpAnyH_take (i := 11) (oi := { dst := some 2, op := Op.assign (Operand.tmp 15), type := 97, pos := "free.go:87", after := #[{ on := 10, ground := Ground.data }, { on := 4, ground := Ground.chain }, { on := 0, ground := Ground.phase }, { on := 1, ground := Ground.phase }, { on := 2, ground := Ground.phase }, { on := 3, ground := Ground.phase }, { on := 4, ground := Ground.phase }, { on := 5, ground := Ground.phase }, { on := 6, ground := Ground.phase }, { on := 7, ground := Ground.phase }, { on := 8, ground := Ground.phase }, { on := 9, ground := Ground.phase }, { on := 10, ground := Ground.phase }], guard := none }) (v := ?_) rfl (by kernel_rfl) (by kernel_rfl) (by kernel_rfl) (fun _ _ _ h => h) (Or.inl ⟨by rfl, ?_⟩) hHeld ?_
 rotate_left
 · intro w5 hSw
   go_simp
   (try with_reducible rfl)
 try simp only [Act.put, List.setIfInBounds_toArray, List.set_cons_zero, List.set_cons_succ]
 refine wpAnyH_done (by kernel_rfl) ?_ _
 try go_simp
 go_wp2_with fail
 go_ret
 refine ⟨w1.heap.size, w1.heap.size :: (Value.ownBlock (.slice A3 l.length c3)).toList, rfl, ⟨⟨A3, c3, Bk.new w1 _ _, ?_, fun a ha => ?_⟩, by simp, fun b hb => ?_⟩, HB1.out.alloc HB1.out.size _, fun b hb => ?_⟩
 · exact ((Off.refl [] w1).alloc _).own (own_mono HO3.out (Nat.zero_le _)) (by simp)
 · have h8 := (HO3.out.row).2.2.2.2.1 a ha
   rw [ha, h8.1]
   simp [Value.ownBlock]
 · rcases List.mem_cons.1 hb with rfl | hb
   · simp
   · rw [Option.mem_toList] at hb
     have := (World.ownsRow.lt HO3.out b hb).2
     simp
     omega
 · rcases List.mem_cons.1 hb with rfl | hb
   · exact HB1.out.size
   · rw [Option.mem_toList] at hb
     exact (World.ownsRow.lt HO3.out b hb).1
end Go.Proofs.YtjbcbnemdhbhbaaGreatDoor

import Derived.Test.YtjbcbnemdhbhbaaGreatDoorG31
import Derived.Test.YtjbcbnemdhbhbaaGreatDoorG27
namespace Go.Proofs.YtjbcbnemdhbhbaaGreatDoor
open Go.RowKit
set_option maxRecDepth 100000
set_option linter.unusedVariables false
set_option linter.unusedSimpArgs false
namespace Tx
theorem Ok.grab {x : Tx} {limit n : Nat} {D : Book} {U pc h : List Nat} (k : x.Ok limit D U pc h) (hd : x.dirty n ≠ none) : ({ x with dirty := Tr.upd x.dirty n none } : Tx).Ok limit D U pc (n :: h) := by
 obtain ⟨dk, h1, h2⟩ := k.perm
 have hm := (h1 n).2 hd
 obtain ⟨a, b, rfl⟩ := List.append_of_mem hm
 have hn := k.nodup h2
 have hab : n ∉ a ++ b := by
   have h3 := (List.nodup_append.1 (List.nodup_append.1 hn).2.1).1
   have := (List.perm_middle (a := n) (l₁ := a) (l₂ := b)).nodup_iff.1 h3
   exact (List.nodup_cons.1 this).1
 refine ⟨⟨a ++ b, fun m => ?_, ?_⟩, k.one, k.le, k.lim, k.sorted, k.freed, k.sub, k.disk, k.txns⟩
 · show m ∈ a ++ b ↔ Tr.upd x.dirty n none m ≠ none
   by_cases e : m = n
   · subst e; rw [Tr.upd_same]; simp [hab]
   · rw [Tr.upd_ne _ _ e, ← h1 m]; simp [e]
 · refine List.Perm.trans ?_ h2
   have p1 := List.perm_middle (a := n) (l₁ := Fr.pg x.fr ++ ((a ++ b) ++ (x.loose ++ (U ++ pc)))) (l₂ := h)
   have p2 := List.perm_middle (a := n) (l₁ := Fr.pg x.fr ++ a) (l₂ := b ++ (x.loose ++ (U ++ (pc ++ h))))
   refine List.Perm.trans (by simpa [List.append_assoc] using p1) ?_
   simpa [List.append_assoc] using p2.symm
theorem Ok.keep {x : Tx} {limit n : Nat} {D : Book} {U pc h : List Nat} (k : x.Ok limit D U pc (n :: h)) : ({ x with loose := x.loose ++ [n] } : Tx).Ok limit D U pc h := by
 obtain ⟨dk, h1, h2⟩ := k.perm
 refine ⟨⟨dk, h1, ?_⟩, k.one, k.le, k.lim, k.sorted, k.freed, k.sub, k.disk, k.txns⟩
 refine List.Perm.trans ?_ h2
 have p1 := List.perm_middle (a := n) (l₁ := Fr.pg x.fr ++ (dk ++ x.loose)) (l₂ := U ++ (pc ++ h))
 have p2 := List.perm_middle (a := n) (l₁ := Fr.pg x.fr ++ (dk ++ (x.loose ++ (U ++ pc)))) (l₂ := h)
 refine List.Perm.trans (by simpa [List.append_assoc] using p1) ?_
 simpa [List.append_assoc] using p2.symm
end Tx
theorem KvMem.grow {E : Kv} {w w' : World} {S hd hd' : List Nat} {x x' : Tx} {f dm nn : Nat} {Sf : List Nat} {lv fv lv' fv' : Value} (h : KvMem E w S hd x f dm nn Sf lv fv) (hc : Bk w' E.t 103 (txCells E x' f dm lv' fv')) {U : List Nat} (ho : Off U w w') (hU : ∀ b ∈ U, b = E.t ∨ lv.ownBlock = some b ∨ fv.ownBlock = some b) (hfr : x'.fr = x.fr) (hdy : x'.dirty = x.dirty)
   (hl : w'.ownsRow 0 3 1 lv' x'.loose.length (ints x'.loose)) (hf : w'.ownsRow 0 3 1 fv' x'.freed.length (ints x'.freed)) (e1 : ∀ g, lv'.ownBlock = some g → lv.ownBlock = some g ∨ w.heap.size ≤ g) (e2 : ∀ g, fv'.ownBlock = some g → fv.ownBlock = some g ∨ w.heap.size ≤ g)
   (e3 : lv'.ownBlock = lv.ownBlock ∨ fv'.ownBlock = fv.ownBlock) (hok : x'.Ok E.limit E.disk E.U E.pc hd') : KvStep E S hd' x' w w' := by
 have hnd := h.nodup
 have hold := h.old
 have hin : ∀ b ∈ txMut E.t f dm Sf lv fv, b ∈ S := fun b hb => by rw [h.blocks]; exact List.mem_append.2 (.inl hb)
 have hUm : ∀ b ∈ U, b ∈ txMut E.t f dm Sf lv fv := fun b hb => by
   rcases hU b hb with rfl | e | e
   · simp [txMut]
   · simp [txMut, e]
   · simp [txMut, e]
 have hst : ∀ b ∈ E.still, b ∉ U := fun b hb hs => h.apart b (hUm b hs) hb
 unfold txMut at hnd
 have n1 := List.nodup_cons.1 hnd
 have n2 := List.nodup_cons.1 n1.2
 have n3 := List.nodup_append.1 n2.2
 have n4 := List.nodup_append.1 n3.2.1
 have hdm : dm ∉ U := fun hs => by
   rcases hU dm hs with e | e | e
   · exact n1.1 (by rw [← e]; simp)
   · exact n2.1 (by simp [e])
   · exact n2.1 (by simp [e])
 have hSf : ∀ b ∈ Sf, b ∉ U := fun b hb hs => by
   rcases hU b hs with rfl | e | e
   · exact n1.1 (by simp [hb])
   · exact n3.2.2 b (by simp [e]) b (by simp [hb]) rfl
   · exact n4.2.2 b (by simp [e]) b hb rfl
 have hfb : ∀ b ∈ lv'.ownBlock.toList ++ fv'.ownBlock.toList, b ∈ lv.ownBlock.toList ++ fv.ownBlock.toList ∨ w.heap.size ≤ b := fun b hb => by
   rcases List.mem_append.1 hb with hb | hb
   · rw [Option.mem_toList] at hb
     exact (e1 b hb).imp (fun hh => by simp [hh]) id
   · rw [Option.mem_toList] at hb
     exact (e2 b hb).imp (fun hh => by simp [hh]) id
 have hother : ∀ b, (b = E.t ∨ b = dm ∨ b ∈ Sf) → b < w.heap.size ∧ b ∉ lv.ownBlock.toList ++ fv.ownBlock.toList := fun b hb => by
   rcases hb with rfl | rfl | hb
   · exact ⟨h.cells.lt, fun hs => n1.1 (by rcases List.mem_append.1 hs with hs | hs <;> simp only [List.mem_cons, List.mem_append, hs, true_or, or_true])⟩
   · exact ⟨h.map.lt, fun hs => n2.1 (by rcases List.mem_append.1 hs with hs | hs <;> simp only [List.mem_append, hs, true_or, or_true])⟩
   · refine ⟨h.free.old b hb, fun hs => ?_⟩
     rcases List.mem_append.1 hs with hs | hs
     · exact n3.2.2 b hs b (by simp [hb]) rfl
     · exact n4.2.2 b hs b hb rfl
 have hnot : ∀ b, (b = E.t ∨ b = dm ∨ b ∈ Sf) → b ∉ lv'.ownBlock.toList ++ fv'.ownBlock.toList := fun b hb hs => by
   obtain ⟨h1, h2⟩ := hother b hb
   rcases hfb b hs with h3 | h3
   · exact h2 h3
   · omega
 have hcross : ∀ b ∈ lv'.ownBlock.toList, b ∉ fv'.ownBlock.toList := fun b hb hs => by
   rw [Option.mem_toList] at hb hs
   rcases e3 with e | e
   · rw [e] at hb
     rcases e2 b hs with h3 | h3
     · exact n3.2.2 b (by simp [hb]) b (by simp [h3]) rfl
     · have := (World.ownsRow.lt h.loose b hb).2; omega
   · rw [e] at hs
     rcases e1 b hb with h3 | h3
     · exact n3.2.2 b (by simp [h3]) b (by simp [hs]) rfl
     · have := (World.ownsRow.lt h.freed b hs).2; omega
 have hnew : (txMut E.t f dm Sf lv' fv').Nodup := by
   unfold txMut
   refine List.nodup_cons.2 ⟨fun hs => ?_, List.nodup_cons.2 ⟨fun hs => ?_, List.nodup_append.2 ⟨?_, List.nodup_append.2 ⟨?_, n4.2.1, ?_⟩, ?_⟩⟩⟩
   · rcases List.mem_cons.1 hs with e | hs
     · exact n1.1 (by rw [e]; simp)
     · rw [← List.append_assoc] at hs
       rcases List.mem_append.1 hs with hs | hs
       · exact hnot _ (.inl rfl) hs
       · exact n1.1 (by simp [hs])
   · rw [← List.append_assoc] at hs
     rcases List.mem_append.1 hs with hs | hs
     · exact hnot _ (.inr (.inl rfl)) hs
     · exact n2.1 (by simp [hs])
   · cases lv'.ownBlock <;> simp
   · cases fv'.ownBlock <;> simp
   · rintro a ha b hb rfl
     exact hnot a (.inr (.inr hb)) (by simp only [List.mem_append, ha, or_true])
   · rintro a ha b hb rfl
     rcases List.mem_append.1 hb with hb | hb
     · exact hcross a ha hb
     · exact hnot a (.inr (.inr hb)) (by simp only [List.mem_append, ha, true_or])
 have hap : ∀ b ∈ txMut E.t f dm Sf lv' fv', b ∈ txMut E.t f dm Sf lv fv ∨ w.heap.size ≤ b := fun b hb => by
   unfold txMut at hb ⊢
   rcases List.mem_cons.1 hb with rfl | hb
   · exact .inl (by simp)
   · rcases List.mem_cons.1 hb with rfl | hb
     · exact .inl (by simp)
     · rw [← List.append_assoc] at hb
       rcases List.mem_append.1 hb with hb | hb
       · refine (hfb b hb).imp (fun hh => ?_) id
         rcases List.mem_append.1 hh with hh | hh <;> simp only [List.mem_cons, List.mem_append, hh, true_or, or_true]
       · exact .inl (by simp [hb])
 have hstill : ∀ b ∈ E.still, b < w.heap.size := fun b hb => hold b (by rw [h.blocks]; exact List.mem_append.2 (.inr hb))
 have hdb := h.db
 refine ⟨txMut E.t f dm Sf lv' fv' ++ E.still, f, dm, nn, Sf, lv', fv', ⟨hc, by rw [hfr]; exact h.free.off ho hSf, by rw [hdy]; exact h.map.off ho hdm, h.nn, hl, hf, ho.bk hdb (hst _ (by simp [Kv.still])), ho.bk h.rd (hst _ (by simp [Kv.still])),
   h.pg.off ho (fun b hb => hst b (by simp [Kv.still, hb])), h.dev.off ho (fun b hb => hst b (by simp [Kv.still, hb])), h.row.off ho (hst _ (by simp [Kv.still])), hok, rfl, hnew, fun b hb hs => ?_⟩, ho.mono (fun b hb => .inl (hin b (hUm b hb))), fun b hb => ?_⟩
 · rcases hap b hb with h1 | h1
   · exact h.apart b h1 hs
   · have := hstill b hs; omega
 · rcases List.mem_append.1 hb with hb | hb
   · exact (hap b hb).imp (hin b) id
   · exact .inl (by rw [h.blocks]; exact List.mem_append.2 (.inr hb))
theorem ints_at {w : World} {A : Option Addr} {l : List Nat} (h : Sl w A (ints l)) (j : Nat) (hj : j < l.length) : ∃ b o, A = some ⟨b, o, none⟩ ∧ b < w.heap.size ∧ w.cell? ⟨b, o + j, none⟩ = some (.int .i64 (l[j] : Nat)) :=
 h j (.int .i64 (l[j] : Nat)) (by simp [ints, hj])
set_option maxHeartbeats 4000000 in
theorem index_no {w : World} {A : Option Addr} {c : Nat} {l : List Nat} (h : Sl w A (ints l)) (hl : l.length ≤ 100000) (n : Nat) (hn : n ∉ l) : Calls Tryz.prog 213 #[.slice A l.length c, .int .i64 n] w (fun e w' => e = .returned (.int .i64 (-1)) ∧ w = w') := by
 have H := Lib.hid h
 have HN := Lib.hid hn
 obtain ⟨m, hm⟩ : ∃ m, m = l.length := ⟨_, rfl⟩
 have HM := Lib.hid hm
 rw [← hm] at hl ⊢
 clear h hn hm
 go_enter Tryz.func213, Tryz.ntmps213
 go_wp2_with fail
 go_loop [8] (fun i => ∃ k : Nat, i = .int .i64 k ∧ k ≤ m) (fun i => m - (intOf i).toNat)
 case atStart => exact ⟨0, rfl, Nat.zero_le _⟩
 case round =>
   obtain ⟨k, rfl, hk⟩ := hrel
   by_cases hlt : k < m
   · have z1 : decide ((k : Int) < (m : Int)) = true := decide_eq_true (by omega)
     have z2 : decide (k < m) = true := decide_eq_true hlt
     obtain ⟨b, o, rfl, lb, q⟩ := ints_at H.out k (by rw [← HM.out]; exact hlt)
     obtain ⟨y, hy⟩ : ∃ y, y = l[k]'(by rw [← HM.out]; exact hlt) := ⟨_, rfl⟩
     have hne : ((n : Int) == (y : Int)) = false := by
       rw [beq_eq_false_iff_ne]
       intro e
       have e2 : n = y := by omega
       exact HN.out (by rw [e2, hy]; exact List.getElem_mem _)
     have hne2 : (n == y) = false := by rw [beq_eq_false_iff_ne]; rw [beq_eq_false_iff_ne] at hne; omega
     rw [← hy] at q
     clear hy
     go_wp2_with fail
     go_round
     case rel => exact ⟨k + 1, by go_num, by omega⟩
     case measure => simp [intOf]; omega
   · have z1 : decide ((k : Int) < (m : Int)) = false := decide_eq_false (by omega)
     have z2 : decide (k < m) = false := decide_eq_false hlt
     go_wp2_with fail
     go_ret
     exact ⟨rfl, rfl⟩
set_option maxHeartbeats 4000000 in
theorem contains_no {w : World} {A : Option Addr} {c : Nat} {l : List Nat} (h : Sl w A (ints l)) (hl : l.length ≤ 100000) (n : Nat) (hn : n ∉ l) : Calls Tryz.prog 157 #[.slice A l.length c, .int .i64 n] w (fun e w' => e = .returned (.bool false) ∧ w = w') := by
 have HI := Lib.hid (index_no (c := c) h hl n hn)
 clear h hl hn
 go_enter Tryz.func157, Tryz.ntmps157
 go_wp2_with fail
 (with_reducible refine HI.out.mono ?_)
 rintro e w' ⟨rfl, rfl⟩
 go_wp2_with fail
 go_ret
 exact ⟨rfl, rfl⟩
set_option maxHeartbeats 16000000 in
theorem wdrop_own {E : Kv} {w : World} {S : List Nat} {x : Tx} {f dm nn : Nat} {Sf : List Nat} {lv fv : Value} (h : KvMem E w S [] x f dm nn Sf lv fv) (n : Nat) (hd : x.dirty n ≠ none) :
   Calls Tryz.prog 317 #[.agg #[.pointer (some ⟨E.t, 0, none⟩)], .int .i64 n] w (fun e w' => e = .returned (.int .i64 0) ∧ KvStep E S [] { x with dirty := Tr.upd x.dirty n none, loose := x.loose ++ [n] } w w') := by
 obtain ⟨p, hp⟩ := Option.ne_none_iff_exists'.1 hd
 have hr := h.ok.range.2.1 n hd
 have hle := h.ok.le
 have hlim := h.ok.lim
 have hn : n < 512 := by omega
 have c8 : w.cell? ⟨E.t, 8, none⟩ = some (.map (some dm)) := h.cells.cell 8
 have lt := h.cells.lt
 have lt1 : E.t < w.heap.size + 1 := by omega
 have hl : ∀ W, Off [] w W → (Instr.lookup 100 (.map (some dm)) (.int .i64 n) true).run Tryz.prog W = .ok (.tuple #[pgV E.txn n p, .bool true]) W := fun W hW => by
   have := oneDirty h n hn W hW
   rw [hp] at this
   exact this
 have HL := Lib.hid (hl (w.alloc (.cells #[.pointer (some ⟨E.t, 0, none⟩)] 111)) ((Off.refl [] w).alloc _))
 unfold pgV at HL
 have hl2 := HL.out
 obtain ⟨wa, hwa⟩ : ∃ wa, wa = (w.alloc (.cells #[.pointer (some ⟨E.t, 0, none⟩)] 111)).alloc (.cells #[.int .i64 p.kind, .int .i64 n, .int .i64 E.txn, .string p.body] 126) := ⟨_, rfl⟩
 have hba : Below w.heap.size w wa := by rw [hwa]; exact ((Below.refl _ w).alloc (Nat.le_refl _) _).alloc (by simp) _
 have hma := h.off (Off.of_below hba []) (by simp)
 obtain ⟨w2, hdel, him, ho2⟩ := hma.map.drop (ty := 0) Tryz.underlying3 Tryz.underlying100 (i := (n : Int)) (wf64 (by omega) (by omega))
 have him : IMap Tryz.prog 3 w2 dm nn (dirtyV E.txn (Tr.upd x.dirty n none)) := by
   rw [← dirtyV_upd]
   exact him
 have hm2 := hma.mapped him hma.nn ho2 (hma.ok.grab hd)
 obtain ⟨A, c, hv, hA, hcm⟩ := own_formK hm2.loose
 have q9 : w2.cell? ⟨E.t, 9, none⟩ = some lv := hm2.cells.cell 9
 have f9 := hm2.cells.frozen 9
 have lt2 := hm2.cells.lt
 have hlen : x.loose.length ≤ 512 := by
   have := hma.ok
   obtain ⟨dk, k1, k2⟩ := this.perm
   have h1 := k2.length_eq
   simp only [List.length_append, nums, List.length_map, List.length_range] at h1
   omega
 obtain ⟨i0, hi, iz0, iz1, iz2⟩ := info_parts info_int
 rw [hwa] at hdel
 have HO2 := Lib.hid (show Off S w w2 from (Off.of_below hba S).then ho2 (fun b hb => by rw [List.mem_singleton] at hb; subst hb; exact .inl (by rw [hma.blocks]; simp [txMut])))
 have HM2 := Lib.hid hm2
 have HOWN := Lib.hid hm2.loose
 have HRW := Lib.hid hv
 have HSZ := Lib.hid (show w.heap.size ≤ w2.heap.size from Nat.le_trans hba.size ho2.size)
 obtain ⟨m, hm9⟩ : ∃ m, m = x.loose.length := ⟨_, rfl⟩
 have HM9 := Lib.hid hm9
 have hv2 : lv = .slice A m c := by rw [hm9]; exact hv
 rw [← hm9] at hlen HOWN
 rw [hv2] at q9 HOWN
 have hown2 := HOWN.out
 have HV2 := Lib.hid hv2
 have HNE := Lib.hid (show Value.ownBlock (.slice A m c) ≠ some E.t from own_ne hown2 hm2.cells (by decide))
 clear h hp hl hwa hba hma him ho2 hm2 hv hA hcm hr hle hlim hd hv2 hm9
 go_enter Tryz.func317, Tryz.ntmps317
 go_wp2_with (first
   | (at_builtin; refine wpList_append_lies _ rfl (.tmp 29) (.tmp 31) 51 rfl 0 3 i0 (.int .i64 0) 1 8 Tryz.underlying51 hi iz0 iz1 iz2 rfl (by omega) (.slice A m c) m (ints x.loose) rfl (hown2.alloc _) ⟨w2.heap.size, 0, none⟩ 1 1 [.int .i64 n] rfl rfl (World.news_of_block (cs := #[.int .i64 n]) (heap_alloc_new w2 _)) (ints_one [n]) (by omega) (by unfold maxLen; omega) (by omega) (by simp) (w2.heap.size + 1) (by simp) ?_; intro gg cap3 w3 hown3 hgrow3 hat3 hlt3; have hbk3 := (hgrow3.block E.t (by simp; omega) (fun e => HNE.out e.symm)).trans (HM2.out.cells.alloc (.cells #[.int .i64 n] 3)); have y0 : w3.cell? ⟨E.t, 9, none⟩ = some lv := Bk.cell hbk3 9; have y1 := Bk.frozen hbk3 9; have y2 := Bk.lt hbk3)
   | fail)
 all_goals
   go_ret
   have hoff3 : Off (E.t :: (Value.ownBlock (.slice A m c)).toList) w2 (w3.setCell ⟨E.t, 9, none⟩ (.slice (some ⟨gg, 0, none⟩) (m + 1) cap3)) :=
     (((Off.refl _ w2).alloc (.cells #[.int .i64 n] 3)).grown hgrow3 (fun g hg => .inl (by rw [hg]; simp))).setCell (.inl (by simp)) _
   have hgt : gg ≠ E.t := fun e => by
     have := own_ne hown3 hbk3 (by decide)
     rw [e] at this
     exact this rfl
   have hset : Off [E.t] w3 (w3.setCell ⟨E.t, 9, none⟩ (.slice (some ⟨gg, 0, none⟩) (m + 1) cap3)) := (Off.refl _ _).setCell (.inl (by simp)) _
   have hst := KvMem.grow (x' := { x with dirty := Tr.upd x.dirty n none, loose := x.loose ++ [n] }) (lv' := .slice (some ⟨gg, 0, none⟩) (m + 1) cap3) (fv' := fv) HM2.out (hd' := []) ?_ hoff3 (fun b hb => ?_) rfl rfl ?_ ?_ (fun g hg => ?_) (fun g hg => .inl hg) (.inr rfl) (HM2.out.ok.keep)
   · obtain ⟨S3, f3, dm3, nn3, Sf3, lv3, fv3, k1, k2, k3⟩ := hst
     refine ⟨rfl, S3, f3, dm3, nn3, Sf3, lv3, fv3, k1, HO2.out.trans k2, k3.mono HSZ.out⟩
   · exact Bk.put hbk3 9 (.slice (some ⟨gg, 0, none⟩) (m + 1) cap3)
   · rcases List.mem_cons.1 hb with rfl | hb
     · exact .inl rfl
     · rw [Option.mem_toList] at hb
       exact .inr (.inl (by rw [HV2.out]; exact hb))
   · have h9 := hset.own hown3 (fun b hb hs => by
       rw [List.mem_singleton] at hs
       subst hs
       exact hgt (by simpa [Value.ownBlock] using hb))
     show World.ownsRow _ 0 _ 1 _ (x.loose ++ [n]).length (ints (x.loose ++ [n]))
     rw [List.length_append, ints_app, ← HM9.out]
     exact h9
   · have h8 := HM2.out.freed
     exact hoff3.own h8 (fun b hb hs => by
       have hnd := HM2.out.nodup
       unfold txMut at hnd
       have n1 := List.nodup_cons.1 hnd
       have n2 := List.nodup_cons.1 n1.2
       have n3 := List.nodup_append.1 n2.2
       rcases List.mem_cons.1 hs with rfl | hs
       · exact n1.1 (by simp [hb])
       · rw [Option.mem_toList] at hs
         exact n3.2.2 b (by rw [HV2.out]; simp [hs]) b (by simp [hb]) rfl)
   · have e : gg = g := by simpa [Value.ownBlock] using hg
     subst e
     rcases hat3 with h9 | h9
     · exact .inl (by rw [HV2.out]; exact h9)
     · exact .inr (by omega)
set_option maxHeartbeats 16000000 in
theorem wdrop_old {E : Kv} {w : World} {S : List Nat} {x : Tx} {f dm nn : Nat} {Sf : List Nat} {lv fv : Value} (h : KvMem E w S [] x f dm nn Sf lv fv) (n : Nat) (hd : x.dirty n = none) (hb : x.book E.disk E.U n ≠ none) :
   Calls Tryz.prog 317 #[.agg #[.pointer (some ⟨E.t, 0, none⟩)], .int .i64 n] w (fun e w' => e = .returned (.int .i64 0) ∧ KvStep E S [] { x with freed := x.freed ++ [n] } w w') := by
 obtain ⟨hu, hnf, hok2, -⟩ := h.ok.free hd hb
 have hr := h.ok.range.2.2.2.1 n hu
 have hle := h.ok.le
 have hlim := h.ok.lim
 have hn : n < 512 := by omega
 have c5 : w.cell? ⟨E.t, 5, none⟩ = some (.int .i64 x.pages) := h.cells.cell 5
 have c8 : w.cell? ⟨E.t, 8, none⟩ = some (.map (some dm)) := h.cells.cell 8
 have lt := h.cells.lt
 have lt1 : E.t < w.heap.size + 1 := by omega
 have lt2 : E.t < w.heap.size + 1 + 1 := by omega
 have hl : ∀ W, Off [] w W → (Instr.lookup 100 (.map (some dm)) (.int .i64 n) true).run Tryz.prog W = .ok (.tuple #[.agg #[.int .i64 0, .int .i64 0, .int .i64 0, .string ⟨#[]⟩], .bool false]) W := fun W hW => by
   have := oneDirty h n hn W hW
   rw [hd] at this
   exact this
 have HL := Lib.hid (hl (w.alloc (.cells #[.pointer (some ⟨E.t, 0, none⟩)] 111)) ((Off.refl [] w).alloc _))
 have hl2 := HL.out
 obtain ⟨A, c, hv, hA, hcm⟩ := own_formK h.freed
 have q10 : w.cell? ⟨E.t, 10, none⟩ = some fv := h.cells.cell 10
 have f10 := h.cells.frozen 10
 have hlen : x.freed.length ≤ 512 := by
   have h1 := Tr.nodup_lt 512 x.freed h.ok.freed (fun b hb => by have := h.ok.range.2.2.2.1 b (h.ok.sub b hb); omega)
   exact h1
 obtain ⟨i0, hi, iz0, iz1, iz2⟩ := info_parts info_int
 have HM2 := Lib.hid h
 have HOWN := Lib.hid h.freed
 have HRW := Lib.hid hv
 have HOK2 := Lib.hid hok2
 obtain ⟨m, hm9⟩ : ∃ m, m = x.freed.length := ⟨_, rfl⟩
 have HM9 := Lib.hid hm9
 have hv2 : fv = .slice A m c := by rw [hm9]; exact hv
 rw [← hm9] at hlen HOWN
 rw [hv2] at q10 HOWN
 have hown2 := HOWN.out
 have HV2 := Lib.hid hv2
 have HNE := Lib.hid (show Value.ownBlock (.slice A m c) ≠ some E.t from own_ne hown2 h.cells (by decide))
 have HCN := Lib.hid (show ∀ W, Off [] w W → Calls Tryz.prog 157 #[.slice A m c, .int .i64 n] W (fun e w' => e = .returned (.bool false) ∧ W = w') from fun W hW => by
   rw [hm9]
   exact contains_no (Sl.of_own (by have h1 := hW.own hown2 (by simp); rw [hm9] at h1; exact h1)) (by rw [← hm9]; omega) n hnf)
 have z1 : decide ((n : Int) < 1) = false := decide_eq_false (by omega)
 have z2 : decide ((x.pages : Int) ≤ (n : Int)) = false := decide_eq_false (by omega)
 have z3 : decide (x.pages ≤ n) = false := decide_eq_false (by omega)
 clear h hl hv hA hcm hr hle hlim hd hv2 hm9 hu hnf hok2 hb
 go_enter Tryz.func317, Tryz.ntmps317
 go_wp2_with fail
 (with_reducible refine (HCN.out _ ?_).mono ?_)
 · exact ((Off.refl [] w).alloc _).alloc _
 rintro e w2 ⟨rfl, rfl⟩
 have how2 : Off [] w ((w.alloc (.cells #[.pointer (some ⟨E.t, 0, none⟩)] 111)).alloc (.cells #[.int .i64 0, .int .i64 0, .int .i64 0, .string ⟨#[]⟩] 126)) := ((Off.refl [] w).alloc _).alloc _
 have hsz2 : ((w.alloc (.cells #[.pointer (some ⟨E.t, 0, none⟩)] 111)).alloc (.cells #[.int .i64 0, .int .i64 0, .int .i64 0, .string ⟨#[]⟩] 126)).heap.size = w.heap.size + 2 := by simp
 have HMB := Lib.hid (HM2.out.off how2 (by simp))
 generalize (w.alloc (.cells #[.pointer (some ⟨E.t, 0, none⟩)] 111)).alloc (.cells #[.int .i64 0, .int .i64 0, .int .i64 0, .string ⟨#[]⟩] 126) = w2 at how2 hsz2 HMB ⊢
 have HOW2 := Lib.hid how2
 have HSZ2 := Lib.hid hsz2
 have q10' : w2.cell? ⟨E.t, 10, none⟩ = some (.slice A m c) := by have := HMB.out.cells.cell 10; rw [HV2.out] at this; exact this
 have f10' := HMB.out.cells.frozen 10
 have lt' := HMB.out.cells.lt
 have hown3' := how2.own hown2 (by simp)
 clear how2 hsz2 q10 f10 c5 c8 hl2
 go_wp2_with (first
   | (at_builtin; refine wpList_append_lies _ rfl (.tmp 58) (.tmp 60) 51 rfl 0 3 i0 (.int .i64 0) 1 8 Tryz.underlying51 hi iz0 iz1 iz2 rfl (by omega) (.slice A m c) m (ints x.freed) rfl (hown3'.alloc _) ⟨w2.heap.size, 0, none⟩ 1 1 [.int .i64 n] rfl rfl (World.news_of_block (cs := #[.int .i64 n]) (heap_alloc_new w2 _)) (ints_one [n]) (by omega) (by unfold maxLen; omega) (by omega) (by simp) (w2.heap.size + 1) (by simp) ?_; intro gg cap3 w3 hown3 hgrow3 hat3 hlt3; have hbk3 := (hgrow3.block E.t (by simp; omega) (fun e => HNE.out e.symm)).trans (HMB.out.cells.alloc (.cells #[.int .i64 n] 3)); have y0 : w3.cell? ⟨E.t, 10, none⟩ = some fv := Bk.cell hbk3 10; have y1 := Bk.frozen hbk3 10; have y2 := Bk.lt hbk3)
   | fail)
 all_goals
   go_ret
   have hoff3 : Off (E.t :: (Value.ownBlock (.slice A m c)).toList) w2 (w3.setCell ⟨E.t, 10, none⟩ (.slice (some ⟨gg, 0, none⟩) (m + 1) cap3)) :=
     (((Off.refl _ w2).alloc (.cells #[.int .i64 n] 3)).grown hgrow3 (fun g hg => .inl (by rw [hg]; simp))).setCell (.inl (by simp)) _
   have hgt : gg ≠ E.t := fun e => by
     have := own_ne hown3 hbk3 (by decide)
     rw [e] at this
     exact this rfl
   have hset : Off [E.t] w3 (w3.setCell ⟨E.t, 10, none⟩ (.slice (some ⟨gg, 0, none⟩) (m + 1) cap3)) := (Off.refl _ _).setCell (.inl (by simp)) _
   have hst := KvMem.grow (x' := { x with freed := x.freed ++ [n] }) (lv' := lv) (fv' := .slice (some ⟨gg, 0, none⟩) (m + 1) cap3) HMB.out (hd' := []) ?_ hoff3 (fun b hb => ?_) rfl rfl ?_ ?_ (fun g hg => .inl hg) (fun g hg => ?_) (.inl rfl) HOK2.out
   · obtain ⟨S3, f3, dm3, nn3, Sf3, lv3, fv3, k1, k2, k3⟩ := hst
     exact ⟨rfl, S3, f3, dm3, nn3, Sf3, lv3, fv3, k1, (HOW2.out.mono (by simp)).trans k2, k3.mono HOW2.out.size⟩
   · exact Bk.put hbk3 10 (.slice (some ⟨gg, 0, none⟩) (m + 1) cap3)
   · rcases List.mem_cons.1 hb with rfl | hb
     · exact .inl rfl
     · rw [Option.mem_toList] at hb
       exact .inr (.inr (by rw [HV2.out]; exact hb))
   · have h8 := HMB.out.loose
     exact hoff3.own h8 (fun b hb hs => by
       have hnd := HM2.out.nodup
       unfold txMut at hnd
       have n1 := List.nodup_cons.1 hnd
       have n2 := List.nodup_cons.1 n1.2
       have n3 := List.nodup_append.1 n2.2
       rcases List.mem_cons.1 hs with rfl | hs
       · exact n1.1 (by simp [hb])
       · rw [Option.mem_toList] at hs
         exact n3.2.2 b (by simp [hb]) b (by rw [HV2.out]; simp [hs]) rfl)
   · have h9 := hset.own hown3 (fun b hb hs => by
       rw [List.mem_singleton] at hs
       subst hs
       exact hgt (by simpa [Value.ownBlock] using hb))
     show World.ownsRow _ 0 _ 1 _ (x.freed ++ [n]).length (ints (x.freed ++ [n]))
     rw [List.length_append, ints_app, ← HM9.out]
     exact h9
   · have e : gg = g := by simpa [Value.ownBlock] using hg
     subst e
     rcases hat3 with h9 | h9
     · exact .inl (by rw [HV2.out]; exact h9)
     · exact .inr (by omega)
theorem kv_serves {E : Kv} (hE : E.Ok) (F : Prop) : Serves (kvStore E F) where
 off := by
   rintro w w' S U σ k ⟨x, f, dm, nn, Sf, lv, fv, h, hσ, hk⟩ ho hU
   exact ⟨x, f, dm, nn, Sf, lv, fv, h.off ho hU, hσ, hk⟩
 old := by
   rintro w S σ k ⟨x, f, dm, nn, Sf, lv, fv, h, hσ, hk⟩
   exact h.old
 less := by
   rintro w S σ k k' ⟨x, f, dm, nn, Sf, lv, fv, h, hσ, hk⟩ hk'
   exact ⟨x, f, dm, nn, Sf, lv, fv, h, hσ, hk.less hk'⟩
 load := by
   refine ⟨318, .agg #[.pointer (some ⟨E.t, 0, none⟩)], fun W => by kernel_rfl, fun W => by kernel_rfl, fun args W => by kernel_rfl, ?_⟩
   rintro w S σ k no p ⟨x, f, dm, nn, Sf, lv, fv, h, rfl, hk⟩ hp
   cases hd : x.dirty no with
   | some q =>
     have e : q = p := by unfold Tx.book at hp; rw [hd] at hp; exact Option.some.inj hp
     subst e
     exact wload_own h no q hd
   | none =>
     have hp' : E.disk no = some p ∧ no ∈ E.U := by
       unfold Tx.book at hp
       rw [hd] at hp
       simp only at hp
       by_cases hc : no ∈ E.U ∧ no ∉ x.freed
       · rw [if_pos hc] at hp; exact ⟨hp, hc.1⟩
       · rw [if_neg hc] at hp; cases hp
     exact wload_disk hE h no p hd hp'.2 hp'.1
 drop := by
   refine ⟨317, .agg #[.pointer (some ⟨E.t, 0, none⟩)], fun W => by kernel_rfl, fun W => by kernel_rfl, fun args W => by kernel_rfl, ?_⟩
   rintro w S σ k no ⟨x, f, dm, nn, Sf, lv, fv, h, rfl, hk⟩ hp
   by_cases hd : x.dirty no = none
   · obtain ⟨h1, h2, h3, h4⟩ := h.ok.free hd hp
     refine (wdrop_old h no hd hp).mono ?_
     rintro e w' ⟨rfl, S', f', dm', nn', Sf', lv', fv', k1, k2, k3⟩
     exact ⟨rfl, S', ⟨_, f', dm', nn', Sf', lv', fv', k1, h4.symm, hk.free _⟩, k2, k3⟩
   · obtain ⟨h1, h2⟩ := h.ok.loosen hd
     refine (wdrop_own h no hd).mono ?_
     rintro e w' ⟨rfl, S', f', dm', nn', Sf', lv', fv', k1, k2, k3⟩
     refine ⟨rfl, S', ⟨_, f', dm', nn', Sf', lv', fv', k1, h2.symm, hk.loosen hd⟩, k2, k3⟩
 make := by
   refine ⟨319, .agg #[.pointer (some ⟨E.t, 0, none⟩)], fun W => by kernel_rfl, fun W => by kernel_rfl, fun args W => by kernel_rfl, ?_⟩
   rintro w S σ k p ⟨x, f, dm, nn, Sf, lv, fv, h, rfl, hk⟩ hF hk1 hk3 hb
   refine (wmake_any hE h p (by omega)).mono ?_
   rintro e w' (⟨n, x', rfl, htk, hok, S', f', dm', nn', Sf', lv', fv', k1, k2, k3⟩ | ⟨rfl, hs, S', f', dm', nn', Sf', lv', fv', k1, k2, k3⟩)
   · have hr := hok.range.2.2.2.2.2 n (by simp)
     have hle := hok.le
     have hlim := hok.lim
     have hbk : x'.book E.disk E.U = x.book E.disk E.U := by
       have := htk.dirty
       unfold Tx.book
       rw [this.1, this.2]
     obtain ⟨hrm, hnk⟩ := hk.take htk hF
     refine .inl ⟨n, rfl, hr.1, by omega, by rw [← hbk]; exact hok.book_none, S', ⟨_, f', dm', nn', Sf', lv', fv', k1, by rw [Tx.book_upd, hbk], hrm.lay hnk p⟩, k2, k3⟩
   · have hf : F := by
       rcases hF with hF | hF
       · exact hF
       · have := hk.sure; omega
     exact .inr ⟨hf, rfl, x.book E.disk E.U, S', ⟨x, f', dm', nn', Sf', lv', fv', k1, rfl, hk.zero⟩, k2, k3⟩
end Go.Proofs.YtjbcbnemdhbhbaaGreatDoor

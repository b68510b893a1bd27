import Derived.Test.YtjbcbnemdhbhbaaGreatDoorG40
import Derived.Test.YtjbcbnemdhbhbaaGreatDoorG41
import Derived.Test.YtjbcbnemdhbhbaaGreatDoorG31
namespace Go.Proofs.YtjbcbnemdhbhbaaGreatDoor
open Go.RowKit
set_option maxRecDepth 100000
set_option linter.unusedVariables false
set_option linter.unusedSimpArgs false
def keysOf (d : Book) : List Nat := (List.range 512).filter fun n => (d n).isSome
theorem keysOf_mem {d : Book} (hd : ∀ n, d n ≠ none → n < 512) (n : Nat) : n ∈ keysOf d ↔ d n ≠ none := by
 unfold keysOf
 rw [List.mem_filter, List.mem_range]
 constructor
 · rintro ⟨-, h⟩ e
   rw [e] at h
   cases h
 · intro h
   refine ⟨hd n h, ?_⟩
   cases hn : d n with
   | none => exact absurd hn h
   | some p => rfl
theorem keysOf_len (d : Book) : (keysOf d).length ≤ 512 := by
 unfold keysOf
 have := List.length_filter_le (fun n => (d n).isSome) (List.range 512)
 rw [List.length_range] at this
 exact this
theorem keysOf_rise (d : Book) : (keysOf d).Pairwise (· < ·) := List.Pairwise.sublist List.filter_sublist List.pairwise_lt_range
theorem keysV (txn : Nat) {d : Book} (hd : ∀ n, d n ≠ none → n < 512) (x : Int) : x ∈ (keysOf d).map (fun (n : Nat) => (n : Int)) ↔ (dirtyV txn d x).isSome = true := by
 rw [List.mem_map]
 constructor
 · rintro ⟨n, hn, rfl⟩
   rw [dirtyV_at]
   have := (keysOf_mem hd n).1 hn
   cases hdn : d n with
   | none => exact absurd hdn this
   | some p => rfl
 · intro hx
   unfold dirtyV at hx
   by_cases h0 : 0 ≤ x
   · rw [if_pos h0] at hx
     refine ⟨x.toNat, (keysOf_mem hd _).2 (fun e => by rw [e] at hx; cases hx), by omega⟩
   · rw [if_neg h0] at hx; cases hx
set_option maxHeartbeats 8000000 in
theorem tdirty_any {w : World} {t dm nn txn : Nat} {cs : Array Value} {d : Book} (hc : Bk w t 103 cs) (h13 : cs[13]? = some (.bool false)) (h8 : cs[8]? = some (.map (some dm))) (hm : IMap Tryz.prog 3 w dm nn (dirtyV txn d)) (hn : nn ≤ 600) (hd : ∀ n, d n ≠ none → n < 512) :
   Calls Tryz.prog 24 #[.pointer (some ⟨t, 0, none⟩)] w (fun e w' => Below w.heap.size w w' ∧ ∃ v, e = .returned v ∧ w'.ownsRow w.heap.size 3 1 v (keysOf d).length (ints (keysOf d))) := by
 have HM := Lib.hid (tmay_ok hc h13)
 have HK1 := Lib.hid fun (W : World) => dkeysB dm W
 have HK2 := Lib.hid (dsortedB hm (by omega) ((keysOf d).map (fun (n : Nat) => (n : Int))) (by rw [List.pairwise_map]; exact (keysOf_rise d).imp (fun h => by omega)) (keysV txn hd))
 have c8 := (hc.cell 8).trans h8
 have lt := hc.lt
 clear hc h13 h8 hm hd
 go_enter Tryz.func24, Tryz.ntmps24
 go_wp2_with fail
 refine HM.out.mono ?_
 rintro e w1 ⟨rfl, rfl⟩
 go_wp2_with fail
 refine (HK1.out _).mono ?_
 rintro e w1 ⟨rfl, rfl⟩
 go_wp2_with fail
 refine HK2.out.mono ?_
 rintro e w2 ⟨v, rfl, hown, hb⟩
 have HB := Lib.hid (((Below.refl _ w).alloc (Nat.le_refl _) (.cells #[.map (some dm)] 100)).trans (hb.mono (by simp)))
 have HO := Lib.hid (show w2.ownsRow w.heap.size 3 1 v (keysOf d).length (ints (keysOf d)) from by
   have h1 := own_mono hown (show w.heap.size ≤ w.heap.size + 1 by omega)
   rw [List.length_map, List.map_map] at h1
   exact h1)
 clear hb hown
 go_wp2_with fail
 go_ret
 exact ⟨HB.out, v, rfl, HO.out⟩
structure Kv.Sep (E : Kv) : Prop where
 t : E.b ∉ E.T ∧ E.r ∉ E.T ∧ 0 ∉ E.T
 s : E.b ∉ E.Sd ∧ E.r ∉ E.Sd ∧ 0 ∉ E.Sd
 ap : ∀ b ∈ E.T, b ∉ E.Sd
def Kv.dev (E : Kv) (T Sd : List Nat) (P : PgS) (D : DevS) : Kv := { E with T := T, Sd := Sd, P := P, D := D }
theorem LdMem.onDev {E : Kv} {w w' : World} {S : List Nat} {pages : Nat} {l : List (Nat × Nat)} {d : Book} {ch : List Nat} {f dm nn : Nat} {Sf : List Nat} {lv : Value} (h : LdMem E w S pages l d ch f dm nn Sf lv) (hs : E.Sep) {T' Sd' : List Nat} {P' : PgS} {D' : DevS}
   (hd : Dev w' E.g Sd' D') (hp : Pg w' E.q T' E.g P') (hap : ∀ b ∈ T', b ∉ Sd') (ho : Off (E.Sd ++ E.T) w w') (hfS : Fresh w E.Sd Sd') (hfT : Fresh w E.T T') :
   ∃ S', LdMem (E.dev T' Sd' P' D') w' S' pages l d ch f dm nn Sf lv ∧ (E.dev T' Sd' P' D').Sep ∧ Off S w w' ∧ Fresh w S S' := by
 have hin : ∀ b ∈ E.Sd ++ E.T, b ∈ E.still := fun b hb => by
   rcases List.mem_append.1 hb with hb | hb
   · simp [Kv.still, hb]
   · simp [Kv.still, hb]
 have hmu : ∀ b ∈ txMut E.t f dm Sf lv (.slice none 0 0), b ∉ E.Sd ++ E.T := fun b hb hs => h.apart b hb (hin b hs)
 have hold : ∀ b ∈ txMut E.t f dm Sf lv (.slice none 0 0), b < w.heap.size := fun b hb => by
   simp only [txMut, List.mem_cons, List.mem_append, Option.mem_toList] at hb
   rcases hb with rfl | rfl | hb | hb | hb
   · exact h.cells.lt
   · exact h.map.lt
   · exact (World.ownsRow.lt h.loose b hb).2
   · rw [show (Value.slice none 0 0).ownBlock = none from rfl] at hb; cases hb
   · exact h.free.old b hb
 have hb : E.b ∉ E.Sd ++ E.T := fun hm => by
   rcases List.mem_append.1 hm with hm | hm
   · exact hs.s.1 hm
   · exact hs.t.1 hm
 have hr : E.r ∉ E.Sd ++ E.T := fun hm => by
   rcases List.mem_append.1 hm with hm | hm
   · exact hs.s.2.1 hm
   · exact hs.t.2.1 hm
 have hcr : 0 ∉ E.Sd ++ E.T := fun hm => by
   rcases List.mem_append.1 hm with hm | hm
   · exact hs.s.2.2 hm
   · exact hs.t.2.2 hm
 refine ⟨txMut E.t f dm Sf lv (.slice none 0 0) ++ (E.dev T' Sd' P' D').still, ⟨ho.bk h.cells (hmu E.t (by simp [txMut])), h.free.off ho (fun b hb => hmu b (by simp [txMut, hb])), h.map.off ho (hmu _ (by simp [txMut])), h.nn, ho.own h.loose (fun b hb => hmu b (by simp [txMut, hb])), ho.bk h.db hb, ho.bk h.rd hr, hp, hd, h.row.off ho hcr, rfl, h.nodup, fun b hbm hst => ?_⟩, ⟨⟨fun hm => ?_, fun hm => ?_, fun hm => ?_⟩, ⟨fun hm => ?_, fun hm => ?_, fun hm => ?_⟩, hap⟩, ho.mono (fun b hb => .inl (by rw [h.blocks]; exact List.mem_append.2 (.inr (hin b hb)))), fun b hbm => ?_⟩
 · have hq : E.q ∈ E.still := by simp [Kv.still]
   simp only [Kv.still, Kv.dev, List.mem_cons, List.mem_append] at hst
   rcases hst with rfl | rfl | rfl | rfl | hst | hst
   · exact h.apart _ hbm (by simp [Kv.still])
   · exact h.apart _ hbm (by simp [Kv.still])
   · exact h.apart _ hbm (by simp [Kv.still])
   · exact h.apart _ hbm (by simp [Kv.still])
   · rcases hfT b hst with h9 | h9
     · exact h.apart _ hbm (hin b (by simp [h9]))
     · have := hold b hbm; omega
   · rcases hfS b hst with h9 | h9
     · exact h.apart _ hbm (hin b (by simp [h9]))
     · have := hold b hbm; omega
 · rcases hfT _ hm with h9 | h9
   · exact hs.t.1 h9
   · exact absurd h9 (Nat.not_le_of_lt h.db.lt)
 · rcases hfT _ hm with h9 | h9
   · exact hs.t.2.1 h9
   · exact absurd h9 (Nat.not_le_of_lt h.rd.lt)
 · rcases hfT _ hm with h9 | h9
   · exact hs.t.2.2 h9
   · exact absurd h9 (Nat.not_le_of_lt h.row.lt)
 · rcases hfS _ hm with h9 | h9
   · exact hs.s.1 h9
   · exact absurd h9 (Nat.not_le_of_lt h.db.lt)
 · rcases hfS _ hm with h9 | h9
   · exact hs.s.2.1 h9
   · exact absurd h9 (Nat.not_le_of_lt h.rd.lt)
 · rcases hfS _ hm with h9 | h9
   · exact hs.s.2.2 h9
   · exact absurd h9 (Nat.not_le_of_lt h.row.lt)
 · rw [h.blocks]
   rcases List.mem_append.1 hbm with hbm | hbm
   · exact .inl (List.mem_append.2 (.inl hbm))
   · simp only [Kv.still, Kv.dev, List.mem_cons, List.mem_append] at hbm
     rcases hbm with rfl | rfl | rfl | rfl | hbm | hbm
     · exact .inl (by simp [Kv.still])
     · exact .inl (by simp [Kv.still])
     · exact .inl (by simp [Kv.still])
     · exact .inl (by simp [Kv.still])
     · rcases hfT b hbm with h9 | h9
       · exact .inl (List.mem_append.2 (.inr (hin b (by simp [h9]))))
       · exact .inr h9
     · rcases hfS b hbm with h9 | h9
       · exact .inl (List.mem_append.2 (.inr (hin b (by simp [h9]))))
       · exact .inr h9
def putAll (t : Int) (d : Book) : List Nat → DevS → DevS × Int
 | [], D => (D, 0)
 | n :: ns, D => match d n with
   | none => putAll t d ns D
   | some p => if (D.writeL (4 * n) (quarters (packS p.kind n t p.body))).2 = 0 then putAll t d ns (D.writeL (4 * n) (quarters (packS p.kind n t p.body))).1 else ((D.writeL (4 * n) (quarters (packS p.kind n t p.body))).1, (D.writeL (4 * n) (quarters (packS p.kind n t p.body))).2)
structure Wrt (E : Kv) (w : World) (S : List Nat) (pages : Nat) (l : List (Nat × Nat)) (d : Book) (ch : List Nat) (f dm nn : Nat) (Sf : List Nat) (lv : Value) (ks : List Nat) (j : Nat) (wr : World) (T' Sd' : List Nat) (P' : PgS) (D' : DevS) (S' : List Nat) : Prop where
 mem : LdMem (E.dev T' Sd' P' D') wr S' pages l d ch f dm nn Sf lv
 sep : (E.dev T' Sd' P' D').Sep
 off : Off S w wr
 fresh : Fresh w S S'
 go : putAll E.txn d ks E.D = putAll E.txn d (ks.drop j) D'
 log : P' = { E.P with log := E.P.log ++ (ks.take j).map (fun (n : Nat) => (n : Int)) }
 steps : D'.steps ≤ E.D.steps + 4 * j
 len : D'.sec.length = E.D.sec.length
def TWritePost (E : Kv) (S : List Nat) (pages : Nat) (l : List (Nat × Nat)) (d : Book) (ch : List Nat) (f dm nn : Nat) (Sf : List Nat) (lv : Value) (w : World) (e : Ending) (w' : World) : Prop :=
 ∃ (r : Int) (T' Sd' : List Nat) (P' : PgS) (D' : DevS) (S' : List Nat) (m : Nat), e = .returned (.int .i64 r) ∧ putAll E.txn d (keysOf d) E.D = (D', r) ∧ LdMem (E.dev T' Sd' P' D') w' S' pages l d ch f dm nn Sf lv ∧ (E.dev T' Sd' P' D').Sep ∧ Off S w w' ∧ Fresh w S S' ∧
   P' = { E.P with log := E.P.log ++ ((keysOf d).take m).map (fun (n : Nat) => (n : Int)) } ∧ D'.steps ≤ E.D.steps + 2048 ∧ D'.sec.length = E.D.sec.length
set_option maxHeartbeats 16000000 in
theorem twrite_any {E : Kv} {w : World} {S : List Nat} {pages : Nat} {l : List (Nat × Nat)} {d : Book} {ch : List Nat} {f dm nn : Nat} {Sf : List Nat} {lv : Value} (h : LdMem E w S pages l d ch f dm nn Sf lv) (hs : E.Sep) (hov : E.over = false) (hfit : ∀ n p, d n = some p → rightB p.kind n E.txn p.body = true ∧ (n : Int) < E.P.m.l ∧ 4 * n + 4 ≤ E.D.sec.length) (hst : E.D.steps ≤ 999990000) (hlog : E.P.log.length ≤ 900000) :
   Calls Tryz.prog 51 #[.pointer (some ⟨E.t, 0, none⟩)] w (TWritePost E S pages l d ch f dm nn Sf lv w) := by
 have hd512 : ∀ n, d n ≠ none → n < 512 := fun n hn => by
   cases hdn : d n with
   | none => exact absurd hdn hn
   | some p => have := (rightB_yes (hfit n p hdn).1).2.2.2.1; omega
 have HDT := Lib.hid (tdirty_any (txn := E.txn) h.cells (by rw [show (txCells E ⟨pages, l, d, ch, []⟩ f dm lv (.slice none 0 0))[13]? = some (.bool E.over) from rfl, hov]) rfl h.map h.nn hd512)
 have H := Lib.hid h
 have HS := Lib.hid hs
 have HFIT := Lib.hid hfit
 have HST := Lib.hid hst
 have HLG := Lib.hid hlog
 have HD5 := Lib.hid hd512
 have lt := h.cells.lt
 obtain ⟨t, ht⟩ : ∃ t, t = E.t := ⟨_, rfl⟩
 have HT := Lib.hid ht
 rw [← ht] at HDT lt ⊢
 obtain ⟨ks, hks⟩ : ∃ ks, ks = keysOf d := ⟨_, rfl⟩
 have HKS := Lib.hid hks
 rw [← hks] at HDT
 have hkl : ks.length ≤ 512 := by rw [hks]; exact keysOf_len d
 clear h hs hov hfit hst hlog hd512 ht hks
 go_enter Tryz.func51, Tryz.ntmps51
 go_wp2_with fail
 refine HDT.out.mono ?_
 rintro e w1 ⟨hb1, v, rfl, hown⟩
 obtain ⟨A, c, rfl, hnc, hcm, -, hsl, hbl⟩ := own_slice hown
 have HB1 := Lib.hid hb1
 have HSL := Lib.hid hsl
 have HBL := Lib.hid (show ∀ a, A = some a → w.heap.size ≤ a.block ∧ a.block < w1.heap.size from fun a ha => ⟨(hbl a ha).1, (World.ownsRow.lt hown _ (hbl a ha).2).2⟩)
 have hcm2 : c ≤ 9223372036854775807 := by unfold maxLen at hcm; omega
 have h0 : Hid (∃ T' Sd' P' D' S', Wrt E w1 S pages l d ch f dm nn Sf lv ks 0 w1 T' Sd' P' D' S') := ⟨E.T, E.Sd, E.P, E.D, S, by
   have hm := H.out
   refine ⟨⟨bk_below hm.cells hb1, hm.free.below hb1, hm.map.off (Off.of_below hb1 []) (by simp), hm.nn, (Off.of_below hb1 []).own hm.loose (by simp), bk_below hm.db hb1, bk_below hm.rd hb1, hm.pg.below hb1, hm.dev.below hb1, hm.row.below hb1, hm.blocks, hm.nodup, hm.apart⟩, HS.out, Off.refl _ _, Fresh.refl _ _, rfl, by simp, by simp, rfl⟩⟩
 clear hown hsl hbl hb1 hcm
 go_wp2_with fail
 go_loopw [9] (fun i wr => ∃ j : Nat, i = .int .i64 j ∧ j ≤ ks.length ∧ Hid (∃ T' Sd' P' D' S', Wrt E w1 S pages l d ch f dm nn Sf lv ks j wr T' Sd' P' D' S')) (fun i _ => ks.length - (intOf i).toNat)
 case atStart => exact ⟨0, rfl, Nat.zero_le _, h0⟩
 case round =>
   obtain ⟨j, rfl, hj, hI⟩ := hrel
   obtain ⟨T', Sd', P', D', S', hT⟩ := hI.out
   by_cases hlt : j < ks.length
   · have z1 : decide ((j : Int) < (ks.length : Int)) = true := decide_eq_true (by omega)
     obtain ⟨n, hn⟩ : ∃ n, n = ks[j] := ⟨_, rfl⟩
     have hnk : n ∈ ks := by rw [hn]; exact List.getElem_mem hlt
     obtain ⟨p, hp⟩ : ∃ p, d n = some p := by
       have := (keysOf_mem HD5.out n).1 (by rw [← HKS.out]; exact hnk)
       cases hdn : d n with
       | none => exact absurd hdn this
       | some p => exact ⟨p, rfl⟩
     obtain ⟨f1, f2, f3⟩ := HFIT.out n p hp
     have hn512 := HD5.out n (by rw [hp]; simp)
     obtain ⟨b, o, rfl, hb, hcell⟩ := ints_at (HSL.out.off hT.off (fun a ha hs => by
       have h1 := (HBL.out a ha).1
       have h2 : a.block < w.heap.size := by
         rw [H.out.blocks] at hs
         rcases List.mem_append.1 hs with hs | hs
         · simp only [txMut, List.mem_cons, List.mem_append, Option.mem_toList] at hs
           rcases hs with hs | hs | hs | hs | hs
           · rw [hs]; exact H.out.cells.lt
           · rw [hs]; exact H.out.map.lt
           · exact (World.ownsRow.lt H.out.loose _ hs).2
           · rw [show (Value.slice none 0 0).ownBlock = none from rfl] at hs; cases hs
           · exact H.out.free.old _ hs
         · simp only [Kv.still, List.mem_cons, List.mem_append] at hs
           rcases hs with hs | hs | hs | hs | hs | hs
           · rw [hs]; exact H.out.db.lt
           · rw [hs]; obtain ⟨_, _, hp⟩ := H.out.pg; exact hp.cells.lt
           · rw [hs]; exact H.out.rd.lt
           · rw [hs]; exact H.out.row.lt
           · exact H.out.pg.old _ hs
           · exact H.out.dev.old _ hs
       omega)) j hlt
     rw [← hn] at hcell
     have hstl : ∀ x ∈ Sd' ++ T', x ∈ (E.dev T' Sd' P' D').still := fun x hx => by
       rcases List.mem_append.1 hx with hx | hx
       · simp [Kv.still, Kv.dev, hx]
       · simp [Kv.still, Kv.dev, hx]
     have htN : E.t ∉ Sd' ++ T' := fun hm => hT.mem.apart E.t (by simp [txMut, Kv.dev]) (hstl _ hm)
     have hdN : dm ∉ Sd' ++ T' := fun hm => hT.mem.apart dm (by simp [txMut]) (hstl _ hm)
     have hbN : E.b ∉ Sd' ++ T' := fun hm => by
       rcases List.mem_append.1 hm with hm | hm
       · exact hT.sep.s.1 hm
       · exact hT.sep.t.1 hm
     have hkr : ∀ W, Off (Sd' ++ T') wr W → W.cell? ⟨t, 0, none⟩ = some (.pointer (some ⟨E.b, 0, none⟩)) ∧ W.cell? ⟨E.b, 0, none⟩ = some (.pointer (some ⟨E.q, 0, none⟩)) ∧ W.cell? ⟨t, 8, none⟩ = some (.map (some dm)) ∧ (Instr.lookup 100 (.map (some dm)) (.int .i64 n) false).run Tryz.prog W = .ok (.agg #[.int .i64 p.kind, .int .i64 n, .int .i64 E.txn, .string p.body]) W := fun W hW => by
       rw [HT.out]
       refine ⟨(hW.bk hT.mem.cells htN).cell 0, (hW.bk hT.mem.db hbN).cell 0, (hW.bk hT.mem.cells htN).cell 8, ?_⟩
       have h1 := (hT.mem.map.off hW hdN).look Tryz.underlying3 Tryz.underlying100 (z := .agg #[.int .i64 0, .int .i64 0, .int .i64 0, .string ⟨#[]⟩]) (by kernel_rfl) (i := (n : Int)) (wf64 (by omega) (by omega))
       rw [h1, dirtyV_at, hp]
       rfl
     have ltr : t < wr.heap.size := by rw [HT.out]; exact hT.mem.cells.lt
     have lbr : E.b < wr.heap.size := hT.mem.db.lt
     have hlg : P'.log.length ≤ 1000000 := by
       rw [hT.log]
       have h1 := HLG.out
       simp only [List.length_append, List.length_map, List.length_take]
       omega
     have hpm : P'.m = E.P.m := by rw [hT.log]
     have HWR := Lib.hid fun (W : World) (hW : Off [] wr W) => pwrite_any (hT.mem.dev.off hW (by simp)) (hT.mem.pg.off hW (by simp)) hT.sep.ap (hT.mem.row.off hW (by simp)).1 p.kind E.txn n p.body f1 hn512 (by show (n : Int) < P'.m.l; rw [hpm]; exact f2) (by show 4 * n + 4 ≤ D'.sec.length; rw [hT.len]; exact f3) (by have h1 := hT.steps; have h2 := HST.out; show D'.steps ≤ _; omega) hlg
     obtain ⟨D2, r, hw⟩ : ∃ D2 r, D'.writeL (4 * n) (quarters (packS p.kind n E.txn p.body)) = (D2, r) := ⟨_, _, rfl⟩
     have HWR2 := Lib.hid (show ∀ W, Off [] wr W → Calls Tryz.prog 115 #[.pointer (some ⟨E.q, 0, none⟩), .agg #[.int .i64 p.kind, .int .i64 n, .int .i64 E.txn, .string p.body]] W (PgPost E.g E.q Sd' T' D2 (P'.logged n) r W) from fun W hW => by
       have h1 := HWR.out W hW
       have e1 : (E.dev T' Sd' P' D').D = D' := rfl
       rw [e1, hw] at h1
       exact h1)
     have hdrop : ks.drop j = n :: ks.drop (j + 1) := by rw [hn]; exact List.drop_eq_getElem_cons hlt
     have htake : ks.take (j + 1) = ks.take j ++ [n] := by rw [hn]; exact List.take_succ_eq_append_getElem hlt
     have hps : packS p.kind n E.txn p.body = packS p.kind n E.txn p.body := rfl
     have hszq : ∀ x ∈ quarters (packS p.kind n E.txn p.body), x.size = 128 := fun x hx => by
       obtain ⟨i9, h9, rfl⟩ := List.mem_iff_getElem.1 hx
       refine quarters_size (s := packS p.kind n E.txn p.body) ?_ (List.getElem?_eq_getElem h9)
       rw [packS_right f1]
       show (pageS _ _ _ _).toArray.size = 512
       rw [List.size_toArray]
       refine pageS_len _ _ _ _ ?_
       have := (rightB_yes f1).2.2.2.2.2.2
       show p.body.data.toList.length ≤ 488
       rw [Array.length_toList]
       exact this
     obtain ⟨v1, v2, v3⟩ := DevS.writeL_wrote (quarters (packS p.kind n E.txn p.body)) D' (4 * n) (by show 4 * n + 4 ≤ _; rw [hT.len]; exact f3) hszq
     rw [hw] at v1 v2 v3
     have hgo : putAll E.txn d ks E.D = if r = 0 then putAll E.txn d (ks.drop (j + 1)) D2 else (D2, r) := by
       rw [hT.go, hdrop]
       show (match d n with | none => _ | some p => _) = _
       rw [hp]
       simp only [hw]
     have HNX := Lib.hid (show ∀ (w' : World) (hW : ∃ W, Off [] wr W ∧ wr.heap.size ≤ W.heap.size ∧ PgPost E.g E.q Sd' T' D2 (P'.logged n) r W (.returned (.int .i64 r)) w'), (r = 0 → ∃ T' Sd' P' D' S', Wrt E w1 S pages l d ch f dm nn Sf lv ks (j + 1) w' T' Sd' P' D' S') ∧ (r ≠ 0 → TWritePost E S pages l d ch f dm nn Sf lv w (.returned (.int .i64 r)) w') from fun w' hex => by
       obtain ⟨W, hW, hsz, -, S2, T2, q1, q2, q3, q4, q5, q6⟩ := hex
       obtain ⟨S3, m1, m2, m3, m4⟩ := hT.mem.onDev hT.sep q1 q2 q3 (hW.mono (by simp) |>.trans q4) (q5.mono hsz) (q6.mono hsz)
       have hlog2 : P'.logged n = { E.P with log := E.P.log ++ (ks.take (j + 1)).map (fun (n : Nat) => (n : Int)) } := by
         unfold PgS.logged
         rw [hT.log, htake]
         simp
       have hst2 : D2.steps ≤ E.D.steps + 4 * (j + 1 : Nat) := by
         have h1 := hT.steps
         have h2 : (quarters (packS p.kind n E.txn p.body)).length = 4 := rfl
         rw [h2] at v2
         push_cast at v2 ⊢
         omega
       have hof : Off S w1 w' := hT.off.then m3 hT.fresh
       have hfr : Fresh w1 S S3 := hT.fresh.trans m4 hT.off.size
       refine ⟨fun h0 => ⟨T2, S2, P'.logged n, D2, S3, m1, m2, hof, hfr, ?_, hlog2, hst2, by rw [v1.sec]; exact hT.len⟩, fun h0 => ⟨r, T2, S2, P'.logged n, D2, S3, j + 1, rfl, ?_, m1, m2, (Off.of_below HB1.out S).trans hof, hfr.mono HB1.out.size, ?_, ?_, by rw [v1.sec]; exact hT.len⟩⟩
       · rw [hgo, if_pos h0]
       · rw [← HKS.out, hgo, if_neg h0]
       · rw [← HKS.out]; exact hlog2
       · have : (j : Int) + 1 ≤ 512 := by omega
         push_cast at hst2
         omega)
     have HKR := Lib.hid hkr
     have hr0 : r = 0 ∨ ((r == 0) = false ∧ (r != 0) = true ∧ r ≠ 0) := by
       by_cases h9 : r = 0
       · exact .inl h9
       · exact .inr ⟨by rw [beq_eq_false_iff_ne]; exact h9, by simpa using h9, h9⟩
     clear hT hI h0 hkr hn hnk hp f1 f2 f3 hw hdrop htake hps hszq v1 v2 v3 hgo hlg hpm HWR hstl htN hdN hbN
     rcases hr0 with rfl | ⟨e1, e2, e3⟩
     · go_wp2_with fail
       go_region_held3 (fun W => W.cell? ⟨t, 0, none⟩ = some (.pointer (some ⟨E.b, 0, none⟩)) ∧ W.cell? ⟨E.b, 0, none⟩ = some (.pointer (some ⟨E.q, 0, none⟩)) ∧ W.cell? ⟨t, 8, none⟩ = some (.map (some dm)) ∧ (Instr.lookup 100 (.map (some dm)) (.int .i64 n) false).run Tryz.prog W = .ok (.agg #[.int .i64 p.kind, .int .i64 n, .int .i64 E.txn, .string p.body]) W) (first | exact HKR.out _ (Off.refl _ _).drew | exact HKR.out _ hk5.out)
         (first
         | (go_at_call 115; refine (HWR2.out _ (Off.refl _ _).drew).mono ?_; intro e w5 hpp; obtain ⟨rfl, -⟩ := id hpp; have HPP := Lib.hid hpp; have hk5 := Lib.hid (show Off (Sd' ++ T') wr w5 from by obtain ⟨-, _, _, -, -, -, q4, -, -⟩ := hpp; exact ((Off.refl (Sd' ++ T') wr).drew).trans q4); clear hpp)
         | fail)
       all_goals
         obtain ⟨T3, Sd3, P3, D3, S3, hW3⟩ := (HNX.out w5 ⟨_, (Off.refl [] wr).drew, by simp, HPP.out⟩).1 (by first | exact trivial | rfl)
         have HW3 := Lib.hid (show ∃ T' Sd' P' D' S', Wrt E w1 S pages l d ch f dm nn Sf lv ks (j + 1) w5 T' Sd' P' D' S' from ⟨T3, Sd3, P3, D3, S3, hW3⟩)
         clear hW3 hk5
         go_wp2_with fail
         go_roundw
         case rel => first | exact ⟨j + 1, by go_num, by omega, HW3⟩ | ((repeat apply Exists.intro); exact ⟨⟨j + 1, by go_num, by omega, HW3⟩, rfl⟩)
         case measure => simp [intOf]; omega
     · go_wp2_with fail
       go_region_held3 (fun W => W.cell? ⟨t, 0, none⟩ = some (.pointer (some ⟨E.b, 0, none⟩)) ∧ W.cell? ⟨E.b, 0, none⟩ = some (.pointer (some ⟨E.q, 0, none⟩)) ∧ W.cell? ⟨t, 8, none⟩ = some (.map (some dm)) ∧ (Instr.lookup 100 (.map (some dm)) (.int .i64 n) false).run Tryz.prog W = .ok (.agg #[.int .i64 p.kind, .int .i64 n, .int .i64 E.txn, .string p.body]) W) (first | exact HKR.out _ (Off.refl _ _).drew | exact HKR.out _ hk5.out)
         (first
         | (go_at_call 115; refine (HWR2.out _ (Off.refl _ _).drew).mono ?_; intro e w5 hpp; obtain ⟨rfl, -⟩ := id hpp; have HPP := Lib.hid hpp; have hk5 := Lib.hid (show Off (Sd' ++ T') wr w5 from by obtain ⟨-, _, _, -, -, -, q4, -, -⟩ := hpp; exact ((Off.refl (Sd' ++ T') wr).drew).trans q4); clear hpp)
         | fail)
       all_goals
         have HW3 := Lib.hid ((HNX.out w5 ⟨_, (Off.refl [] wr).drew, by simp, HPP.out⟩).2 e3)
         clear hk5 e3
         go_wp2_with fail
         go_ret
         exact HW3.out
   · have z1 : decide ((j : Int) < (ks.length : Int)) = false := decide_eq_false (by omega)
     have hje : j = ks.length := by omega
     have HE := Lib.hid (show TWritePost E S pages l d ch f dm nn Sf lv w (.returned (.int .i64 0)) wr from ⟨0, T', Sd', P', D', S', ks.length, rfl, by
       have := hT.go
       rw [hje, List.drop_length] at this
       rw [← HKS.out]
       exact this, hT.mem, hT.sep, (Off.of_below HB1.out S).trans hT.off, hT.fresh.mono HB1.out.size, by
       have := hT.log
       rw [hje] at this
       rw [← HKS.out]
       exact this, by have := hT.steps; omega, hT.len⟩)
     clear hT hI h0
     go_wp2_with fail
     go_ret
     exact HE.out
end Go.Proofs.YtjbcbnemdhbhbaaGreatDoor

import Derived.Test.YtjbcbnemdhbhbaaGreatDoorG24
import Derived.Test.YtjbcbnemdhbhbaaGreatDoorG18
import Derived.Test.YtjbcbnemdhbhbaaGreatDoorG32
namespace Go.Proofs.YtjbcbnemdhbhbaaGreatDoor
open Go.RowKit
set_option maxRecDepth 100000
set_option linter.unusedVariables false
set_option linter.unusedSimpArgs false
def quarters (s : ByteArray) : List ByteArray := [s.extract 0 128, s.extract 128 256, s.extract 256 384, s.extract 384 512]
def PgS.logged (P : PgS) (n : Nat) : PgS := { P with log := P.log ++ [(n : Int)] }
theorem log_grown {w w3 w4 : World} {q g gg m cl cap4 n : Nat} {S T : List Nat} {D : DevS} {P : PgS} {sl : Value} {Al : Option Addr} (hpa : PgAt w q T g P sl (.slice Al m cl)) (hm : m = P.log.length) (hd : Dev w g S D) (hap : ∀ b ∈ T, b ∉ S) (hb3 : Below w.heap.size w w3)
   (hown4 : w4.ownsRow 0 3 1 (.slice (some ⟨gg, 0, none⟩) (m + 1) cap4) (m + 1) (P.log.map (Value.int .i64) ++ [.int .i64 n])) (hgrow4 : (w3.alloc (.cells #[.int .i64 n] 3)).drew.grownBy w4 (Value.ownBlock (.slice Al m cl)))
   (hat4 : Value.ownBlock (.slice Al m cl) = some gg ∨ gg = w3.heap.size + 1) (hlt4 : gg < w4.heap.size) :
   Dev (w4.setCell ⟨q, 13, none⟩ (.slice (some ⟨gg, 0, none⟩) (m + 1) cap4)) g S D ∧ Pg (w4.setCell ⟨q, 13, none⟩ (.slice (some ⟨gg, 0, none⟩) (m + 1) cap4)) q (T ++ [gg]) g (P.logged n) ∧ (∀ b ∈ T ++ [gg], b ∉ S) ∧ Off T w (w4.setCell ⟨q, 13, none⟩ (.slice (some ⟨gg, 0, none⟩) (m + 1) cap4)) ∧ Off T w3 (w4.setCell ⟨q, 13, none⟩ (.slice (some ⟨gg, 0, none⟩) (m + 1) cap4)) ∧ Fresh w T (T ++ [gg]) := by
 have hqT := hpa.inT.1
 have hownT : ∀ b, Value.ownBlock (.slice Al m cl) = some b → b ∈ T := hpa.inT.2
 have ho4 : Off (Value.ownBlock (.slice Al m cl)).toList w3 w4 := (((Off.refl _ w3).alloc _).drew).grown hgrow4 (fun g hg => .inl (by rw [hg]; simp))
 have ho5 : Off T w3 (w4.setCell ⟨q, 13, none⟩ (.slice (some ⟨gg, 0, none⟩) (m + 1) cap4)) := (ho4.mono (fun b hb => .inl (hownT b (by rw [Option.mem_toList] at hb; exact hb)))).setCell (p := ⟨q, 13, none⟩) (.inl hqT) _
 have how : Off T w (w4.setCell ⟨q, 13, none⟩ (.slice (some ⟨gg, 0, none⟩) (m + 1) cap4)) := (Off.of_below hb3 T).trans ho5
 have hgn : gg ∈ T ∨ w.heap.size ≤ gg := by
   rcases hat4 with h | h
   · exact .inl (hownT gg h)
   · have := hb3.size; exact .inr (by omega)
 have hne3 : Value.ownBlock (.slice Al m cl) ≠ some q := own_ne hpa.log hpa.cells (by decide)
 have hbk3 : Bk w4 q 188 (pgCells g P.m P.o P.both sl (.slice Al m cl)) := ho4.bk (bk_below hpa.cells hb3) (fun hs => by rw [Option.mem_toList] at hs; exact hne3 hs)
 have hne4 : Value.ownBlock (.slice (some ⟨gg, 0, none⟩) (m + 1) cap4) ≠ some q := own_ne hown4 hbk3 (by decide)
 have hSd : ∀ b ∈ S, b ∉ T := fun b hb ht => hap b ht hb
 refine ⟨hd.off how hSd, ⟨sl, .slice (some ⟨gg, 0, none⟩) (m + 1) cap4, ?_⟩, fun b hb hs => ?_, how, ho5, fun b hb => ?_⟩
 · refine ⟨hbk3.put 13 _, ?_, ?_, ⟨List.mem_append.2 (.inl hqT), fun b hb => ?_⟩, fun b hb => ?_⟩
   · have h := hpa.sld
     unfold SealAt at h ⊢
     show (match P.sealed with | none => _ | some s => _)
     cases hs : P.sealed with
     | none => rw [hs] at h; exact h
     | some ms =>
       rw [hs] at h
       obtain ⟨b, h1, h2, h3⟩ := h
       refine ⟨b, List.mem_append.2 (.inl h1), h2, ?_⟩
       have hbq : b ≠ q := h3.ne hpa.cells (by decide)
       have hbo : Value.ownBlock (.slice Al m cl) ≠ some b := own_ne hpa.log h3 (by decide)
       have h4 : Bk w4 b 40 ms.cells := ho4.bk (bk_below h3 hb3) (fun hs => by rw [Option.mem_toList] at hs; exact hbo hs)
       exact h4.far (p := ⟨q, 13, none⟩) hbq _
   · have h1 : (P.logged n).log.map (Value.int .i64) = P.log.map (Value.int .i64) ++ [.int .i64 n] := by simp [PgS.logged]
     have h2 : (P.logged n).log.length = m + 1 := by simp [PgS.logged, hm]
     rw [h1, h2]
     exact ((Off.refl [q] w4).setCell (p := ⟨q, 13, none⟩) (.inl (by simp)) _).own hown4 (fun g hg hs => by
       rw [List.mem_singleton] at hs
       subst hs
       exact hne4 hg)
   · have : b = gg := by
       have h9 : Value.ownBlock (.slice (some ⟨gg, 0, none⟩) (m + 1) cap4) = some gg := rfl
       rw [h9] at hb
       injection hb with hb
       exact hb.symm
     subst this
     simp
   · rcases List.mem_append.1 hb with hb | hb
     · exact Nat.lt_of_lt_of_le (hpa.old b hb) how.size
     · rw [List.mem_singleton] at hb
       subst hb
       simpa using hlt4
 · rcases List.mem_append.1 hb with hb | hb
   · exact hap b hb hs
   · rw [List.mem_singleton] at hb
     subst hb
     rcases hgn with h | h
     · exact hap b h hs
     · have := hd.old b hs; omega
 · rcases List.mem_append.1 hb with hb | hb
   · exact .inl hb
   · rw [List.mem_singleton] at hb
     subst hb
     exact hgn
structure Written (g q : Nat) (S T : List Nat) (D : DevS) (P : PgS) (s : ByteArray) (n : Nat) (w : World) (T' : List Nat) (i : Nat) (wr : World) (Si : List Nat) (Di : DevS) : Prop where
 dev : Dev wr g Si Di
 pg : Pg wr q T' g (P.logged n)
 ap : ∀ b ∈ T', b ∉ Si
 off : Off (S ++ T) w wr
 fS : Fresh w S Si
 fT : Fresh w T T'
 go : D.writeL (4 * n) (quarters s) = Di.writeL (4 * n + i) ((quarters s).drop i)
 steps : Di.steps ≤ D.steps + i
 len : Di.sec.length = D.sec.length
 cell : ∃ cs, Bk wr w.heap.size 126 cs ∧ cs[1]? = some (.int .i64 n)
 apc : w.heap.size ∉ Si ∧ w.heap.size ∉ T'
theorem quarters_size {s x : ByteArray} {i : Nat} (hs : s.size = 512) (hx : (quarters s)[i]? = some x) : x.size = 128 := by
 have hm := List.mem_of_getElem? hx
 unfold quarters at hm
 simp only [List.mem_cons, List.not_mem_nil, or_false] at hm
 rcases hm with rfl | rfl | rfl | rfl
 all_goals rw [ByteArray.size_extract, hs]; rfl
theorem Written.next {g q : Nat} {S T : List Nat} {D : DevS} {P : PgS} {s : ByteArray} {n : Nat} {w : World} {T' : List Nat} {i : Nat} {wr : World} {Si : List Nat} {Di : DevS} (h : Written g q S T D P s n w T' i wr Si Di) {x : ByteArray} (hx : (quarters s)[i]? = some x) (hs : s.size = 512) (hi : i < 4) (hsec : 4 * n + 4 ≤ D.sec.length)
   {D' : DevS} {r : Int} (hw : Di.write ((4 * n + i : Nat) : Int) x = (D', r)) {w' : World} {S' : List Nat} (hd : Dev w' g S' D') (ho : Off Si wr w') (hf : Fresh wr Si S') :
   (r = 0 → Written g q S T D P s n w T' (i + 1) w' S' D') ∧ (r ≠ 0 → PgPost g q S T (D.writeL (4 * n) (quarters s)).1 (P.logged n) (D.writeL (4 * n) (quarters s)).2 w (.returned (.int .i64 r)) w') := by
 have hxs := quarters_size hs hx
 have hin : 4 * n + i < Di.sec.length := by rw [h.len]; omega
 obtain ⟨k1, k2, k3⟩ := DevS.write_wrote hin hxs
 rw [hw] at k1 k2 k3
 have hdr : (quarters s).drop i = x :: (quarters s).drop (i + 1) := by
   have hil : i < (quarters s).length := by
     by_cases hc : i < (quarters s).length
     · exact hc
     · rw [List.getElem?_eq_none (Nat.le_of_not_lt hc)] at hx; cases hx
   rw [List.drop_eq_getElem_cons hil]
   rw [List.getElem?_eq_getElem hil] at hx
   injection hx with hx
   rw [hx]
 have hgo := h.go
 rw [hdr] at hgo
 have hwl : Di.writeL (4 * n + i) (x :: (quarters s).drop (i + 1)) = if r = 0 then D'.writeL (4 * n + i + 1) ((quarters s).drop (i + 1)) else (D', r) := by
   show (if (Di.write ((4 * n + i : Nat) : Int) x).2 = 0 then DevS.writeL (Di.write ((4 * n + i : Nat) : Int) x).1 (4 * n + i + 1) ((quarters s).drop (i + 1)) else ((Di.write ((4 * n + i : Nat) : Int) x).1, (Di.write ((4 * n + i : Nat) : Int) x).2)) = _
   rw [hw]
 rw [hwl] at hgo
 have hpo : Pg w' q T' g (P.logged n) := h.pg.off ho h.ap
 have hap : ∀ b ∈ T', b ∉ S' := fun b hb hs => by
   rcases hf b hs with h9 | h9
   · exact h.ap b hb h9
   · have := h.pg.old b hb; omega
 have hoff : Off (S ++ T) w w' := h.off.then ho (fun b hb => by
   rcases h.fS b hb with h9 | h9
   · exact .inl (by simp [h9])
   · exact .inr h9)
 have hfS : Fresh w S S' := h.fS.trans hf h.off.size
 refine ⟨fun h0 => ?_, fun h0 => ?_⟩
 · rw [if_pos h0] at hgo
   obtain ⟨cs, c1, c2⟩ := h.cell
   refine ⟨hd, hpo, hap, hoff, hfS, h.fT, hgo, ?_, by rw [k1.sec]; exact h.len, ⟨cs, ho.bk c1 h.apc.1, c2⟩, fun hs => ?_, h.apc.2⟩
   · have := h.steps
     push_cast
     simp only at k2
     omega
   · rcases hf _ hs with h9 | h9
     · exact h.apc.1 h9
     · have := c1.lt; omega
 · rw [if_neg h0] at hgo
   rw [hgo]
   exact ⟨rfl, S', T', hd, hpo, hap, hoff, hfS, h.fT⟩
theorem Written.done {g q : Nat} {S T : List Nat} {D : DevS} {P : PgS} {s : ByteArray} {n : Nat} {w : World} {T' : List Nat} {wr : World} {Si : List Nat} {Di : DevS} (h : Written g q S T D P s n w T' 4 wr Si Di) :
   PgPost g q S T (D.writeL (4 * n) (quarters s)).1 (P.logged n) (D.writeL (4 * n) (quarters s)).2 w (.returned (.int .i64 0)) wr := by
 have hgo := h.go
 have : (quarters s).drop 4 = [] := rfl
 rw [this] at hgo
 rw [hgo]
 exact ⟨rfl, Si, T', h.dev, h.pg, h.ap, h.off, h.fS, h.fT⟩
set_option maxHeartbeats 32000000 in
theorem pwrite_any {g q : Nat} {S T : List Nat} {D : DevS} {P : PgS} {w : World} (hd : Dev w g S D) (hp : Pg w q T g P) (hap : ∀ b ∈ T, b ∉ S) (hr : RowAt w) (k t : Int) (n : Nat) (b : ByteArray) (hright : rightB k n t b = true) (hn : n < 512) (hl : (n : Int) < P.m.l) (hsec : 4 * n + 4 ≤ D.sec.length) (hb : D.steps ≤ 999999990) (hlog : P.log.length ≤ 1000000) :
   Calls Tryz.prog 115 #[.pointer (some ⟨q, 0, none⟩), .agg #[.int .i64 k, .int .i64 n, .int .i64 t, .string b]] w (PgPost g q S T (D.writeL (4 * n) (quarters (packS k n t b))).1 (P.logged n) (D.writeL (4 * n) (quarters (packS k n t b))).2 w) := by
 obtain ⟨i0, hi, iz0, iz1, iz2⟩ := info_parts info_int
 have HPK := Lib.hid fun (W : World) (hW : RowAt W) => (show Calls Tryz.prog 172 #[.agg #[.int .i64 k, .int .i64 n, .int .i64 t, .string b]] W (fun e w' => e = .returned (.tuple #[.string (packS k n t b), .int .i64 0]) ∧ Below W.heap.size W w') from by
   have := pack_any k n t b W hW
   unfold PackPost at this
   rw [packE_right hright] at this
   exact this)
 obtain ⟨s, hs⟩ : ∃ s, s = packS k n t b := ⟨_, rfl⟩
 have hsz : s.size = 512 := by
   rw [hs, packS_right hright]
   show (pageS _ _ _ _).toArray.size = 512
   rw [List.size_toArray]
   refine pageS_len _ _ _ _ ?_
   have h9 := hright
   unfold rightB at h9
   simp at h9
   show b.data.toList.length ≤ 488
   rw [Array.length_toList]
   show b.size ≤ 488
   omega
 rw [← hs] at HPK ⊢
 obtain ⟨sl, lg, hpa⟩ := hp
 obtain ⟨Al, cl, hlg, -, hcl⟩ := own_formK hpa.log
 obtain ⟨m, hm⟩ : ∃ m, m = P.log.length := ⟨_, rfl⟩
 rw [← hm] at hlg hlog
 subst hlg
 have HPA := Lib.hid hpa
 have HD := Lib.hid hd
 have HAP := Lib.hid hap
 have HR := Lib.hid hr
 have HM := Lib.hid hm
 have hq0 := hpa.cells.cell 0
 have z1 : decide (P.m.l ≤ (n : Int)) = false := decide_eq_false (by omega)
 have hqC := hpa.cells
 have lq := hqC.lt
 have HQC := Lib.hid fun (W : World) (hW : Below w.heap.size w W) => (show W.cell? ⟨q, 0, none⟩ = some (.pointer (some ⟨g, 0, none⟩)) ∧ W.cell? ⟨q, 5, none⟩ = some (.int .i64 P.m.l) ∧ W.cell? ⟨q, 13, none⟩ = some (.slice Al m cl) ∧ W.frozen? ⟨q, 13, none⟩ = false from ⟨(bk_below hqC hW).cell 0, (bk_below hqC hW).cell 5, (bk_below hqC hW).cell 13, (bk_below hqC hW).frozen 13⟩)
 obtain ⟨l, hle⟩ : ∃ l, l = P.m.l := ⟨_, rfl⟩
 have HSZ := Lib.hid hsz
 clear hd hap hr hpa hs hright hm hq0 hqC hl hle hsz
 go_enter Tryz.func115, Tryz.ntmps115
 go_wp2_with fail
 refine (HPK.out _ (HR.out.below ((Below.refl _ w).alloc (Nat.le_refl _) _))).mono ?_
 rintro e w2 ⟨rfl, hb2⟩
 have hpb := bk_below (Bk.new w 126 #[.int .i64 k, .int .i64 n, .int .i64 t, .string b]) hb2
 have hbw2 : Below w.heap.size w w2 := ((Below.refl _ w).alloc (Nat.le_refl _) (.cells #[.int .i64 k, .int .i64 n, .int .i64 t, .string b] 126)).trans (hb2.mono (by simp))
 have HPB := Lib.hid hpb
 have HB2 := Lib.hid hbw2
 obtain ⟨c0, c5, c13, f13⟩ := HQC.out w2 hbw2
 have p1 := hpb.cell 1
 have lp := hpb.lt
 have lq2 := Nat.lt_of_lt_of_le lq hbw2.size
 clear hb2 hpb hbw2
 go_wp2_with fail
 go_quiet (fail)
 go_wp2_with fail
 have hb3 := below_drewN HB2.out nq
 have hpb3 : Bk (w2.drewN nq) w.heap.size 126 #[.int .i64 k, .int .i64 n, .int .i64 t, .string b] := HPB.out
 generalize w2.drewN nq = w3 at hb3 hpb3 ⊢
 clear c0 c5 c13 f13 p1 lp lq2
 obtain ⟨c0, c5, c13, f13⟩ := HQC.out w3 hb3
 have p1 := hpb3.cell 1
 have lp := hpb3.lt
 have lq3 := Nat.lt_of_lt_of_le lq hb3.size
 have HB3 := Lib.hid hb3
 have HPB3 := Lib.hid hpb3
 have HLOG := Lib.hid (show w3.ownsRow 0 3 1 (.slice Al m cl) m (P.log.map (Value.int .i64)) from by
   have h9 := (Off.of_below hb3 []).own HPA.out.log (by simp)
   rw [← HM.out] at h9
   exact h9)
 have HQB := Lib.hid (bk_below HPA.out.cells hb3)
 have HNE := Lib.hid (show Value.ownBlock (.slice Al m cl) ≠ some q from own_ne HLOG.out HQB.out (by decide))
 clear hb3 hpb3 HPB
 go_region_law ((refine step_append_lies _ (by rfl) _ _ 51 (by rfl) 0 3 i0 (.int .i64 0) 1 8 Tryz.underlying51 hi iz0 iz1 iz2 (by rfl) (by omega) _ _ _ (by rfl) (HLOG.out.alloc _) ⟨w3.heap.size, 0, none⟩ 1 1 [.int .i64 n] (by rfl) (by rfl) (World.news_of_block (cs := #[.int .i64 n]) (heap_alloc_new w3 _)) (ints_one [n]) (by omega) (by unfold maxLen; omega) (by omega) (Nat.zero_le _) (w3.heap.size + 1) (by simp) ?_; intro gg cap4 w4 hown4 hgrow4 hat4 hlt4; have hbk4 := (hgrow4.block q (by simp; omega) (fun e => HNE.out e.symm)).trans (HQB.out.alloc (.cells #[.int .i64 n] 3)); have y0 : w4.cell? ⟨q, 13, none⟩ = some (.slice Al m cl) := Bk.cell hbk4 13; have y1 := Bk.frozen hbk4 13; have y2 := Bk.lt hbk4))
 all_goals
   obtain ⟨hd5, hp5, hap5, how5, ho35, hfT5⟩ := log_grown HPA.out HM.out HD.out HAP.out HB3.out hown4 hgrow4 hat4 hlt4
   have hwT : ∀ b ∈ T, b < w.heap.size := HPA.out.old
   have hW0 : Written g q S T D P s n w (T ++ [gg]) 0 (w4.setCell ⟨q, 13, none⟩ (.slice (some ⟨gg, 0, none⟩) (m + 1) cap4)) S D := by
     refine ⟨hd5, hp5, hap5, how5.mono (fun b hb => .inl (by simp [hb])), Fresh.refl _ _, hfT5, rfl, by simp, rfl, ⟨_, ho35.bk HPB3.out (fun hs => by have := hwT _ hs; omega), rfl⟩, fun hs => by have := HD.out.old _ hs; omega, fun hs => ?_⟩
     rcases List.mem_append.1 hs with hs | hs
     · have := hwT _ hs; omega
     · rw [List.mem_singleton] at hs
       rcases hat4 with h9 | h9
       · have := hwT _ (HPA.out.inT.2 gg h9); omega
       · have := HB3.out.size; omega
   have HW0 := Lib.hid hW0
   generalize w4.setCell ⟨q, 13, none⟩ (.slice (some ⟨gg, 0, none⟩) (m + 1) cap4) = v0 at HW0 ⊢
   clear hd5 hp5 hap5 how5 ho35 hfT5 hwT hW0 hown4 hgrow4 hat4 hlt4 hbk4 y0 y1 y2
   go_wp2_with fail
   go_loopw [40] (fun i wr => ∃ j : Nat, i = .int .i64 j ∧ j ≤ 4 ∧ Hid (∃ Si Di, Written g q S T D P s n w (T ++ [gg]) j wr Si Di)) (fun i _ => 4 - (intOf i).toNat)
   case atStart => exact ⟨0, rfl, Nat.zero_le _, Lib.hid ⟨S, D, HW0.out⟩⟩
   case round =>
     obtain ⟨j, rfl, hj, hI⟩ := hrel
     obtain ⟨Si, Di, hW⟩ := hI.out
     by_cases hlt : j < 4
     · have z5 : decide ((j : Int) < 4) = true := decide_eq_true (by omega)
       have z6 : decide (j < 4) = true := decide_eq_true hlt
       obtain ⟨a, ha⟩ : ∃ a : Nat, a = j * 128 := ⟨_, rfl⟩
       obtain ⟨c, hc⟩ : ∃ c : Nat, c = (j + 1) * 128 := ⟨_, rfl⟩
       obtain ⟨z, hz⟩ : ∃ z : Nat, z = 4 * n := ⟨_, rfl⟩
       obtain ⟨y, hy⟩ : ∃ y : Nat, y = 4 * n + j := ⟨_, rfl⟩
       have hpc : (quarters s)[j]? = some (s.extract a c) := by
         rw [ha, hc]
         match j, hlt with
         | 0, _ => rfl
         | 1, _ => rfl
         | 2, _ => rfl
         | 3, _ => rfl
       obtain ⟨D', r, hw⟩ : ∃ D' r, Di.write ((4 * n + j : Nat) : Int) (s.extract a c) = (D', r) := ⟨_, _, rfl⟩
       have hr0 : r = 0 ∨ ((r == 0) = false ∧ (r != 0) = true ∧ r ≠ 0) := by
         by_cases h9 : r = 0
         · exact .inl h9
         · exact .inr ⟨by rw [beq_eq_false_iff_ne]; exact h9, by simpa using h9, h9⟩
       have HDW := Lib.hid (show Calls Tryz.prog 118 #[ptr g, .int .i64 y, .string (s.extract a c)] wr.drew (DevPost g Si D' (.int .i64 r) wr.drew) from by
         rw [hy]
         exact dwrite_from (hW.dev.off ((Off.refl [] wr).drew) (by simp)) ((4 * n + j : Nat) : Int) (s.extract a c) D' r (by have := hW.steps; omega) (by rw [quarters_size HSZ.out hpc]; unfold maxLen; omega) hw)
       have HNX := Lib.hid fun (w' : World) (S' : List Nat) (hd : Dev w' g S' D') (ho : Off Si wr w') (hf : Fresh wr Si S') => hW.next hpc HSZ.out hlt hsec hw hd ho hf
       have hkc : ∀ W, Off Si wr W → W.cell? ⟨q, 0, none⟩ = some (ptr g) ∧ W.cell? ⟨w.heap.size, 1, none⟩ = some (.int .i64 n) := fun W hW9 => by
         obtain ⟨sl', lg', hpa'⟩ := hW.pg
         obtain ⟨cs, k1, k2⟩ := hW.cell
         exact ⟨(hW9.bk hpa'.cells (hW.ap q hpa'.inT.1)).cell 0, ((hW9.bk k1 hW.apc.1).cell 1).trans k2⟩
       have lqr : q < wr.heap.size := by
         obtain ⟨sl', lg', hpa'⟩ := hW.pg
         exact hpa'.cells.lt
       have lpr : w.heap.size < wr.heap.size := by
         obtain ⟨cs, k1, k2⟩ := hW.cell
         exact k1.lt
       have HKC := Lib.hid hkc
       have p1 : (j : Int) * 128 = (a : Int) := by rw [ha]; push_cast; rfl
       have p2 : ((j : Int) + 1) * 128 = (c : Int) := by rw [hc]; push_cast; rfl
       have p3 : (4 : Int) * (n : Int) = (z : Int) := by rw [hz]; push_cast; rfl
       have p4 : (z : Int) + (j : Int) = (y : Int) := by rw [hz, hy]; push_cast; rfl
       have w1 : IntKind.i64.wrap (a : Int) = a := by rw [IntKind.wrap_i64]; omega
       have w2 : IntKind.i64.wrap (c : Int) = c := by rw [IntKind.wrap_i64]; omega
       have w3' : IntKind.i64.wrap (z : Int) = z := by rw [IntKind.wrap_i64]; omega
       have w4' : IntKind.i64.wrap (y : Int) = y := by rw [IntKind.wrap_i64]; omega
       have w5' : IntKind.i64.wrap ((j : Int) + 1) = (j : Int) + 1 := by rw [IntKind.wrap_i64]; omega
       have w6' : IntKind.i64.wrap (j : Int) = (j : Int) := by rw [IntKind.wrap_i64]; omega
       have b1 : (0 : Int) ≤ (a : Int) := by omega
       have b2 : (a : Int) ≤ (c : Int) := by omega
       have b3 : (c : Int) ≤ (s.size : Int) := by have := HSZ.out; omega
       have b4 : a ≤ c := by omega
       have b5 : c ≤ s.size := by have := HSZ.out; omega
       have HW := Lib.hid hW
       clear hkc hw hW hI ha hc hz hy hpc
       rcases hr0 with rfl | ⟨e1, e2, e3⟩
       · go_wp2_with fail
         go_region_held3 (fun W => W.cell? ⟨q, 0, none⟩ = some (ptr g) ∧ W.cell? ⟨w.heap.size, 1, none⟩ = some (.int .i64 n)) (first | exact HKC.out _ (Off.refl _ _).drew | exact HKC.out _ hk9.out)
           (first
           | (go_at_call 118; refine HDW.out.mono ?_; rintro e v1 ⟨rfl, S1, hd9, ho9, hf9⟩; have hk9 := Lib.hid (((Off.refl Si wr).drew).trans ho9))
           | fail)
         all_goals
           have HW1 := Lib.hid (show ∃ Si Di, Written g q S T D P s n w (T ++ [gg]) (j + 1) v1 Si Di from ⟨S1, D', (HNX.out v1 S1 hd9 hk9.out (hf9.mono (by simp))).1 (by first | exact trivial | rfl)⟩)
           clear hd9 ho9 hf9 hk9
           go_wp2_with fail
           go_roundw
           case rel => first | exact ⟨j + 1, by go_num, by omega, HW1⟩ | ((repeat apply Exists.intro); exact ⟨⟨j + 1, by go_num, by omega, HW1⟩, rfl⟩)
           case measure => simp [intOf]; omega
       · go_wp2_with fail
         go_region_held3 (fun W => W.cell? ⟨q, 0, none⟩ = some (ptr g) ∧ W.cell? ⟨w.heap.size, 1, none⟩ = some (.int .i64 n)) (first | exact HKC.out _ (Off.refl _ _).drew | exact HKC.out _ hk9.out)
           (first
           | (go_at_call 118; refine HDW.out.mono ?_; rintro e v1 ⟨rfl, S1, hd9, ho9, hf9⟩; have hk9 := Lib.hid (((Off.refl Si wr).drew).trans ho9))
           | fail)
         all_goals
           have HW1 := Lib.hid ((HNX.out v1 S1 hd9 hk9.out (hf9.mono (by simp))).2 e3)
           clear hd9 ho9 hf9 hk9 e3
           go_wp2_with fail
           go_ret
           exact HW1.out
     · have z5 : decide ((j : Int) < 4) = false := decide_eq_false (by omega)
       have z6 : decide (j < 4) = false := decide_eq_false hlt
       have hj4 : j = 4 := by omega
       have HE := Lib.hid (show PgPost g q S T (D.writeL (4 * n) (quarters s)).1 (P.logged n) (D.writeL (4 * n) (quarters s)).2 w (.returned (.int .i64 0)) wr from by subst hj4; exact hW.done)
       clear hW hI hj4
       go_wp2_with fail
       go_ret
       exact HE.out
end Go.Proofs.YtjbcbnemdhbhbaaGreatDoor

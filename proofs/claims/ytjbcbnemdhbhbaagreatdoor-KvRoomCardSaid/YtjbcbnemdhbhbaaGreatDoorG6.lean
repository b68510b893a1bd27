import Derived.Test.YtjbcbnemdhbhbaaGreatDoorG5
import Derived.Deep.RegionHeldLaw
import Derived.Deep.DrawnRows
namespace Go.Proofs.YtjbcbnemdhbhbaaGreatDoor
open Go.RowKit
open Go.PlainAid
set_option maxRecDepth 100000
set_option linter.unusedVariables false
set_option linter.unusedSimpArgs false
theorem DevAt.stepped {w w1 : World} {g : Nat} {S : List Nat} {D : DevS} {l m nn : Nat} {B C : Nat → Nat} (h : DevAt w g S D l m nn B C)
   (hb : Bk w1 g 156 (devCells l D.sec.length m D.stepped.off D.stepped.fuse D.stepped.steps D.stepped.writes)) (ho : Off [g] w w1) : DevAt w1 g S D.stepped l m nn B C := by
 have hgl : g ≠ l := Bk.ne h.cells h.sec (by decide)
 have hgm : g ≠ m := h.map.ne_bk h.cells
 have er := D.stepped_row
 have es := D.stepped_sec
 have ew := D.stepped_writes
 have ewt : D.stepped.waits = D.waits := by funext i; unfold DevS.waits; rw [er]
 refine ⟨h.ok.stepped, by rw [es]; exact hb, by rw [es]; exact ho.bk h.sec (by simp; exact fun e => hgl e.symm), by rw [er]; exact h.map.off ho (by simp; exact fun e => hgm e.symm), by rw [ew]; exact h.nn, ?_, by rw [ewt]; exact h.apart, by rw [ewt]; exact h.apartL, by rw [ewt]; exact h.inS, fun b hb => Nat.lt_of_lt_of_le (h.old b hb) ho.size⟩
 rw [ewt]
 intro i hi
 have h1 := h.own i hi
 refine ho.own h1 (fun b hb => ?_)
 have hne := own_ne h1 h.cells (by decide)
 rw [hb] at hne
 simp
 exact fun e => hne (by rw [e])
theorem bk_of_own {w : World} {g base n cap : Nat} {t : TypeId} {xs : List Value} (h : w.ownsRow base t 1 (.slice (some ⟨g, 0, none⟩) n cap) n xs) : ∃ cs, Bk w g t cs := by
 rcases h.2 with ⟨h0, _⟩ | ⟨g', cap', cur, h0, _, hh, _⟩
 · cases h0
 · injection h0 with h0
   injection h0 with h0
   injection h0 with h0
   subst h0
   exact ⟨cur, hh⟩
theorem write_done {w1 w2 w3 : World} {g : Nat} {S : List Nat} {D : DevS} {l m nn : Nat} {B C : Nat → Nat} (h : DevAt w1 g S D l m nn B C) {k : Nat} (hk : k < D.sec.length) {s : ByteArray} (hs : s.size = 128) (hws : D.writes < D.steps)
   {A : Option Addr} {c b cap : Nat} (hv : (Value.slice A (D.waits k).length c) = (waitV D.row B C (k : Int)).getD (.slice none 0 0)) {W : World} (hW : Off [] w1 W)
   (hown : w2.ownsRow 0 9 1 (.slice (some ⟨b, 0, none⟩) ((D.waits k).length + 1) cap) ((D.waits k).length + 1) (strs (D.waits k) ++ [.string s]))
   (hg : W.grownBy w2 (Value.slice A (D.waits k).length c).ownBlock) (hat : (Value.slice A (D.waits k).length c).ownBlock = some b ∨ b = w1.heap.size + 1) (hlt : b < w2.heap.size)
   (hm : IMap Tryz.prog 3 w3 m (nn + 1) (fun j => if j = (k : Int) then some (.slice (some ⟨b, 0, none⟩) ((D.waits k).length + 1) cap) else waitV D.row B C j)) (hg3 : w2.grownBy w3 (some m)) :
   ∃ S', Dev (w3.setCell ⟨g, 5, none⟩ (.int .i64 (D.writes + 1))) g S' { D with row := D.row ++ [(k, s)], writes := D.writes + 1 } ∧ Off S w1 (w3.setCell ⟨g, 5, none⟩ (.int .i64 (D.writes + 1))) ∧ Fresh w1 S S' := by
 obtain ⟨i1, i2, i3, i4⟩ := h.inS
 have hgl : g ≠ l := Bk.ne h.cells h.sec (by decide)
 have hgm : g ≠ m := h.map.ne_bk h.cells
 have hlm : l ≠ m := h.map.ne_bk h.sec
 have hblk : ∀ x, (Value.slice A (D.waits k).length c).ownBlock = some x → D.waits k ≠ [] ∧ x = B k := by
   intro x hx
   rw [hv] at hx
   unfold waitV at hx
   rw [Int.toNat_natCast] at hx
   by_cases hn : waitsOf D.row k = []
   · rw [if_neg (fun e => e.2 hn)] at hx
     simp [Value.ownBlock] at hx
   · rw [if_pos ⟨by omega, hn⟩] at hx
     simp [Value.ownBlock] at hx
     exact ⟨hn, hx.symm⟩
 have hT : ∀ x, (Value.slice A (D.waits k).length c).ownBlock = some x → x ∈ S ∧ x ≠ g ∧ x ≠ l ∧ x ≠ m := by
   intro x hx
   obtain ⟨hn, rfl⟩ := hblk x hx
   have h1 := h.own k hn
   obtain ⟨cs, hcs⟩ := bk_of_own h1
   exact ⟨i4 k hn, Bk.ne hcs h.cells (by decide), h.apartL k hn, h.map.ne_bk hcs⟩
 let T : List Nat := (match (Value.slice A (D.waits k).length c).ownBlock with | some x => [x] | none => []) ++ [m, g]
 have memT : ∀ x, x ∈ T → (Value.slice A (D.waits k).length c).ownBlock = some x ∨ x = m ∨ x = g := by
   intro x hx
   rcases List.mem_append.1 hx with hx | hx
   · left
     revert hx
     cases (Value.slice A (D.waits k).length c).ownBlock with
     | none => simp
     | some y => intro hx; simp at hx; rw [hx]
   · right
     simpa using hx
 have hO2 : Off T w1 w2 := (hW.mono (by simp)).grown hg (fun x hx => .inl (List.mem_append.2 (.inl (by rw [hx]; simp))))
 have hO3 : Off T w1 w3 := hO2.grown hg3 (fun x hx => by injection hx with hx; subst hx; exact .inl (List.mem_append.2 (.inr (by simp))))
 have hO4 : Off T w1 (w3.setCell ⟨g, 5, none⟩ (.int .i64 (D.writes + 1))) := hO3.setCell (.inl (List.mem_append.2 (.inr (by simp)))) _
 have ngT : ∀ x, (Value.slice A (D.waits k).length c).ownBlock = some x → x ≠ g := fun x hx => (hT x hx).2.1
 have hlT : l ∉ T := fun hx => by
   rcases memT l hx with hx | hx | hx
   · exact (hT l hx).2.2.1 rfl
   · exact hlm hx
   · exact hgl hx.symm
 have hbg2 : Bk w2 g 156 (devCells l D.sec.length m D.off D.fuse D.steps D.writes) :=
   (hg.block g (Nat.lt_of_lt_of_le h.cells.lt hW.size) (fun e => (ngT g e.symm) rfl)).trans (hW.bk h.cells (by simp))
 have hbg3 : Bk w3 g 156 (devCells l D.sec.length m D.off D.fuse D.steps D.writes) := (hg3.block g hbg2.lt (fun e => hgm (by injection e))).trans hbg2
 have hbg4 : Bk (w3.setCell ⟨g, 5, none⟩ (.int .i64 (D.writes + 1))) g 156 (devCells l D.sec.length m D.off D.fuse D.steps (D.writes + 1)) := hbg3.put 5 _
 obtain ⟨cs, hcs⟩ := bk_of_own hown
 have hbg : b ≠ g := Bk.ne hcs hbg2 (by decide)
 have hm2 : IMap Tryz.prog 3 w2 m nn (waitV D.row B C) := h.map.of_heap ((hg.block m (Nat.lt_of_lt_of_le h.map.lt hW.size) (fun e => (hT m e.symm).2.2.2 rfl)).trans (hW.block m h.map.lt (by simp)))
 have hbm : b ≠ m := hm2.ne_bk hcs
 have hbl : b ≠ l := by
   intro e
   rcases hat with e1 | e1
   · exact (hT b e1).2.2.1 e
   · have := h.sec.lt; omega
 have hown3 := (Off.refl [m] w2).grown hg3 (fun x hx => by injection hx with hx; exact .inl (by simp [hx])) |>.own hown (fun x hx => by
   have : x = b := by simpa [Value.ownBlock] using hx.symm
   subst this
   simpa using hbm)
 have hown4 := ((Off.refl [g] w3).setCell (p := ⟨g, 5, none⟩) (.inl (by simp)) (.int .i64 (D.writes + 1))).own hown3 (fun x hx => by
   have : x = b := by simpa [Value.ownBlock] using hx.symm
   subst this
   simpa using hbg)
 have hfar : ∀ j, j ≠ k → D.waits j ≠ [] → B j ∉ T := by
   intro j hj hn hx
   obtain ⟨cs', hcs'⟩ := bk_of_own (h.own j hn)
   rcases memT _ hx with hx | hx | hx
   · obtain ⟨hn', e⟩ := hblk _ hx
     exact hj (h.apart j k hn hn' e)
   · exact h.map.ne_bk hcs' hx
   · exact Bk.ne hcs' h.cells (by decide) hx
 have hbB : ∀ j, j ≠ k → D.waits j ≠ [] → b ≠ B j := by
   intro j hj hn e
   rcases hat with e1 | e1
   · obtain ⟨hn', e2⟩ := hblk _ e1
     exact hj (h.apart j k hn hn' (by rw [← e, e2]))
   · have := h.old _ (i4 j hn); omega
 have wk : ∀ j, ({ D with row := D.row ++ [(k, s)], writes := D.writes + 1 } : DevS).waits j = if k = j then D.waits j ++ [s] else D.waits j := fun j => waitsOf_snoc D.row k j s
 have e5 : ∀ j, (if j = k then b else B j) = (if j = k then b else B j) := fun _ => rfl
 refine ⟨b :: S, ⟨l, m, nn + 1, (fun j => if j = k then b else B j), (fun j => if j = k then cap else C j), ?_⟩, hO4.mono ?_, ?_⟩
 · refine ⟨?_, hbg4, hO4.bk h.sec hlT, ?_, ?_, ?_, ?_, ?_, ?_, ?_⟩
   · refine ⟨h.ok.some, h.ok.most, h.ok.secs, ?_, h.ok.fuse0, h.ok.fuse1, ?_, ?_⟩
     · intro x hx
       rcases List.mem_append.1 hx with hx | hx
       · exact h.ok.rows x hx
       · obtain rfl : x = (k, s) := by simpa using hx
         exact ⟨hk, hs⟩
     · have := h.ok.rowW; simp only [List.length_append, List.length_singleton]; omega
     · show D.writes + 1 ≤ D.steps; omega
   · refine IMap.of_heap (w := w3) ?_ (Below.heap_setCell w3 _ _ m (fun e => hgm e.symm))
     have : waitV (D.row ++ [(k, s)]) (fun j => if j = k then b else B j) (fun j => if j = k then cap else C j) = (fun j => if j = (k : Int) then some (.slice (some ⟨b, 0, none⟩) ((D.waits k).length + 1) cap) else waitV D.row B C j) := by
       funext j
       unfold waitV
       rw [waitsOf_snoc]
       by_cases hj : j = (k : Int)
       · subst hj
         rw [Int.toNat_natCast, if_pos rfl, if_pos rfl, if_pos ⟨by omega, by simp⟩]
         simp only [if_true, List.length_append, List.length_singleton]
         rfl
       · rw [if_neg hj]
         by_cases hj0 : 0 ≤ j
         · have hjk : j.toNat ≠ k := by omega
           have hkj : ¬ (k = j.toNat) := fun e => hjk e.symm
           simp only [if_neg hkj, if_neg hjk]
         · rw [if_neg (fun e => hj0 e.1), if_neg (fun e => hj0 e.1)]
     show IMap _ _ w3 m (nn + 1) (waitV (D.row ++ [(k, s)]) _ _)
     rw [this]
     exact hm
   · have := h.nn
     show ((nn + 1 : Nat) : Int) ≤ D.writes + 1
     omega
   · intro j hj
     rw [wk] at hj ⊢
     by_cases hjk : k = j
     · subst hjk
       simp only [if_pos, List.length_append, List.length_singleton]
       have : strs (D.waits k ++ [s]) = strs (D.waits k) ++ [.string s] := by simp [strs]
       rw [this]
       exact hown4
     · rw [if_neg hjk] at hj ⊢
       have hjk' : j ≠ k := fun e => hjk e.symm
       simp only [if_neg hjk']
       exact hO4.own (h.own j hj) (fun x hx => by
         have : x = B j := by simpa [Value.ownBlock] using hx.symm
         subst this
         exact hfar j hjk' hj)
   · intro i j hi hj hij
     rw [wk] at hi hj
     by_cases h1 : i = k
     · by_cases h2 : j = k
       · rw [h1, h2]
       · simp only [if_pos h1, if_neg h2] at hij
         rw [if_neg (fun e => h2 e.symm)] at hj
         exact absurd hij (hbB j h2 hj)
     · by_cases h2 : j = k
       · simp only [if_neg h1, if_pos h2] at hij
         rw [if_neg (fun e => h1 e.symm)] at hi
         exact absurd hij.symm (hbB i h1 hi)
       · simp only [if_neg h1, if_neg h2] at hij
         rw [if_neg (fun e => h1 e.symm)] at hi
         rw [if_neg (fun e => h2 e.symm)] at hj
         exact h.apart i j hi hj hij
   · intro i hi
     rw [wk] at hi
     by_cases h1 : i = k
     · simp only [if_pos h1]; exact hbl
     · simp only [if_neg h1]
       rw [if_neg (fun e => h1 e.symm)] at hi
       exact h.apartL i hi
   · refine ⟨List.mem_cons_of_mem _ i1, List.mem_cons_of_mem _ i2, List.mem_cons_of_mem _ i3, fun i hi => ?_⟩
     rw [wk] at hi
     by_cases h1 : i = k
     · simp only [if_pos h1]; exact List.mem_cons_self
     · simp only [if_neg h1]
       rw [if_neg (fun e => h1 e.symm)] at hi
       exact List.mem_cons_of_mem _ (i4 i hi)
   · intro x hx
     have hsz : w2.heap.size ≤ (w3.setCell ⟨g, 5, none⟩ (.int .i64 (D.writes + 1))).heap.size := by
       have := hg3.size
       simpa [World.setCell] using this
     rcases List.mem_cons.1 hx with rfl | hx
     · omega
     · exact Nat.lt_of_lt_of_le (h.old x hx) hO4.size
 · intro x hx
   left
   rcases memT x hx with hx | hx | hx
   · exact (hT x hx).1
   · rw [hx]; exact i3
   · rw [hx]; exact i1
 · intro x hx
   rcases List.mem_cons.1 hx with rfl | hx
   · rcases hat with e1 | e1
     · exact .inl (hT _ e1).1
     · exact .inr (by omega)
   · exact .inl hx
def ownL (v : Value) : List Nat := match v.ownBlock with | some x => [x] | none => []
theorem own_apart {w : World} {g : Nat} {S : List Nat} {D : DevS} {l m nn : Nat} {B C : Nat → Nat} (h : DevAt w g S D l m nn B C) (k : Nat) {A : Option Addr} {n c : Nat} (hv : (Value.slice A n c) = (waitV D.row B C (k : Int)).getD (.slice none 0 0)) :
   g ∉ ownL (.slice A n c) ∧ l ∉ ownL (.slice A n c) ∧ m ∉ ownL (.slice A n c) := by
 unfold ownL
 rw [hv]
 unfold waitV
 rw [Int.toNat_natCast]
 by_cases hn : waitsOf D.row k = []
 · rw [if_neg (fun e => e.2 hn)]
   simp [Value.ownBlock]
 · rw [if_pos ⟨by omega, hn⟩]
   have h1 := h.own k hn
   obtain ⟨cs, hcs⟩ := bk_of_own h1
   simp [Value.ownBlock]
   exact ⟨Bk.ne h.cells hcs (by decide), fun e => h.apartL k hn e.symm, fun e => h.map.ne_bk hcs e.symm⟩
theorem info_str : (Tryz.prog.info? 9).map (fun i => (i.zero, i.size, i.bytes)) = some (some (.string ByteArray.empty), 1, 16) := by kernel_rfl
theorem devPost_of {g : Nat} {S : List Nat} {D D' : DevS} {r r' : Value} {w w' : World} (hD : D = D') (hr : r = r') (h : ∃ S', Dev w' g S' D' ∧ Off S w w' ∧ Fresh w S S') : DevPost g S D r w (.returned r') w' := by
 subst hD
 subst hr
 exact ⟨rfl, h⟩
set_option maxHeartbeats 4000000 in
theorem dwrite_any {g : Nat} {S : List Nat} {D : DevS} {w : World} (hd : Dev w g S D) (i : Int) (s : ByteArray) (hb : D.steps ≤ 1000000000) (hsz : s.size ≤ maxLen) :
   Calls Tryz.prog 118 #[ptr g, .int .i64 i, .string s] w (DevPost g S (D.write i s).1 (.int .i64 (D.write i s).2) w) := by
 have hd0 := Lib.hid hd
 unfold maxLen at hsz
 cases hin : D.isIn i with
 | false =>
   have HL : Hid (D.write i s = (D, 1)) := show _ = _ by unfold DevS.write; rw [hin]; rfl
   obtain ⟨l, m, nn, B, C, h⟩ := hd
   clear h
   go_enter Tryz.func118, Tryz.ntmps118
   go_wp2_with (go_at_call 178; refine (dis_any hd0.out i).mono ?_; rintro e w2 ⟨rfl, rfl⟩; rw [hin])
   go_ret
   exact devPost_of (by rw [HL.out]) (by rw [HL.out]; rfl) ⟨S, hd0.out, Off.refl _ _, Fresh.refl _ _⟩
 | true =>
   by_cases h128 : s.size ≠ 128
   · have HL : Hid (D.write i s = (D, 1)) := show _ = _ by unfold DevS.write; rw [hin]; simp [h128]
     have q1 : ((s.size : Int) == 128) = false := by simp; omega
     have q2 : ((s.size : Int) != 128) = true := by simp; omega
     obtain ⟨l, m, nn, B, C, h⟩ := hd
     clear h h128
     go_enter Tryz.func118, Tryz.ntmps118
     go_wp2_with (go_at_call 178; refine (dis_any hd0.out i).mono ?_; rintro e w2 ⟨rfl, rfl⟩; rw [hin])
     go_ret
     exact devPost_of (by rw [HL.out]) (by rw [HL.out]; rfl) ⟨S, hd0.out, Off.refl _ _, Fresh.refl _ _⟩
   · have h128 : s.size = 128 := by omega
     have q1 : ((s.size : Int) == 128) = true := by simp; omega
     have q2 : ((s.size : Int) != 128) = false := by simp; omega
     have H128 := Lib.hid h128
     obtain ⟨l, m, nn, B, C, h⟩ := hd
     have HD := Lib.hid h
     cases hok : D.stepOk with
     | false =>
       have HL : Hid (D.write i s = (D.stepped, 6)) := show _ = _ by unfold DevS.write; rw [hin, H128.out, hok]; rfl
       clear h h128
       go_enter Tryz.func118, Tryz.ntmps118
       go_wp2_with (first
         | (go_at_call 178; refine (dis_any hd0.out i).mono ?_; rintro e w2 ⟨rfl, rfl⟩; rw [hin])
         | (go_at_call 173; refine (dstep_any HD.out.cells HD.out.ok hb).mono ?_; rintro e w2 ⟨rfl, hb2, ho2⟩; rw [hok]; have HB2 := Lib.hid hb2; have HO2 := Lib.hid ho2; clear hb2 ho2)
         | fail)
       go_ret
       exact devPost_of (by rw [HL.out]) (by rw [HL.out]; rfl) ⟨S, ⟨l, m, nn, B, C, HD.out.stepped HB2.out HO2.out⟩, HO2.out.mono (fun x hx => .inl (by simp at hx; rw [hx]; exact HD.out.inS.1)), Fresh.refl _ _⟩
     | true =>
       obtain ⟨i0, i1⟩ := DevS.isIn_iff.1 hin
       obtain ⟨k, rfl⟩ : ∃ k : Nat, i = (k : Int) := ⟨i.toNat, by omega⟩
       have hk : k < D.sec.length := by omega
       have HL : Hid (D.write (k : Int) s = ({ D.stepped with row := D.stepped.row ++ [(k, s)], writes := D.stepped.writes + 1 }, 0)) := show _ = _ by unfold DevS.write; rw [hin, H128.out, hok, D.stepped_row, D.stepped_writes]; rfl
       have hoff : D.off = false := by unfold DevS.stepOk at hok; simp at hok; exact hok.1
       have HWS : Hid (D.stepped.writes < D.stepped.steps) := show _ < _ by
         have := h.ok.writesS
         rw [D.stepped_writes]
         unfold DevS.stepped
         rw [hoff]
         show D.writes < D.steps + 1
         omega
       have hwr : D.stepped.writes ≤ 1000000000 := by rw [D.stepped_writes]; have := h.ok.writesS; omega
       have hwr0 : 0 ≤ D.stepped.writes := by rw [D.stepped_writes]; exact h.ok.writes0
       have HK := Lib.hid hk
       clear h h128 hoff i1 hk
       go_enter Tryz.func118, Tryz.ntmps118
       go_wp2_with (first
         | (go_at_call 178; refine (dis_any hd0.out _).mono ?_; rintro e w2 ⟨rfl, rfl⟩; rw [hin])
         | (go_at_call 173; refine (dstep_any HD.out.cells HD.out.ok hb).mono ?_; rintro e w1 ⟨rfl, hb1, ho1⟩; rw [hok]; have HB1 := Lib.hid hb1; have HO1 := Lib.hid ho1; clear hb1 ho1)
         | fail)
       have h1 := HD.out.stepped HB1.out HO1.out
       have HOK := Lib.hid (show Off S w w1 from HO1.out.mono (fun x hx => .inl (by simp at hx; rw [hx]; exact HD.out.inS.1)))
       have hsec : D.stepped.sec.length = D.sec.length := by rw [D.stepped_sec]
       have HK2 := Lib.hid (show k < D.stepped.sec.length by rw [hsec]; exact HK.out)
       clear hsec HK HB1 HO1 HD hd0 hok hin hb
       generalize D.stepped = E at *
       obtain ⟨A, c, hrun, hsl, hown, hv⟩ := look_run h1 k (by have := h1.ok.most; have := HK2.out; omega)
       obtain ⟨c0, c1, c2, c3, c4, c5⟩ := h1.cells.six
       have g5 := h1.cells.frozen 5
       have hlen : (E.waits k).length ≤ 1000000000 := by
         have t1 := waitsOf_length_le E.row k
         have t2 := h1.ok.rowW
         unfold DevS.waits
         omega
       have HV := Lib.hid hv
       have HOWN := Lib.hid hown
       have H1 := Lib.hid h1
       have HSL := Lib.hid hsl
       clear hv hown hsl h1 c0 c2 c3 c4
       have HT := Lib.hid (own_apart H1.out k HV.out)
       have HKS : Hid (∀ W, Off (ownL (.slice A (E.waits k).length c)) w1 W → W.cell? ⟨g, 1, none⟩ = some (.map (some m)) ∧ (Instr.lookup 154 (.map (some m)) (.int .i64 (k : Int)) false).run Tryz.prog W = .ok (.slice A (E.waits k).length c) W) := fun W hW => by
         obtain ⟨t1, t2, t3⟩ := HT.out
         refine ⟨(hW.cell (p := ⟨g, 1, none⟩) H1.out.cells.lt t1).trans c1, ?_⟩
         have h2 := (H1.out.map.off hW t3).look (t := 154) Tryz.underlying3 Tryz.underlying154 (zero_strs W) (i := (k : Int)) (wf64 (by omega) (by have := H1.out.ok.most; have := HK2.out; omega))
         rw [← HV.out] at h2
         exact h2
       have HO := Lib.hid (Off.refl (ownL (.slice A (E.waits k).length c)) w1)
       obtain ⟨inf, hi, hz0, hz1, hz2⟩ := info_parts info_str
       have HI := Lib.hid hi
       have HZ0 := Lib.hid hz0
       have HZ1 := Lib.hid hz1
       have HZ2 := Lib.hid hz2
       clear hi hz0 hz1 hz2
       have HUP : Hid (∀ (W W2 : World) (b cap : Nat), Off [] w1 W → W.grownBy W2 (Value.slice A (E.waits k).length c).ownBlock → ∃ w3, (Instr.mapUpdate 154 (.map (some m)) (.int .i64 (k : Int)) (.slice (some ⟨b, 0, none⟩) ((E.waits k).length + 1) cap)).run Tryz.prog W2 = .ok () w3 ∧
           IMap Tryz.prog 3 w3 m (nn + 1) (fun j => if j = (k : Int) then some (.slice (some ⟨b, 0, none⟩) ((E.waits k).length + 1) cap) else waitV E.row B C j) ∧ W2.grownBy w3 (some m) ∧ W2.cell? ⟨g, 1, none⟩ = some (.map (some m)) ∧ w3.cell? ⟨g, 1, none⟩ = some (.map (some m)) ∧ w3.cell? ⟨g, 5, none⟩ = some (.int .i64 E.writes) ∧ w3.frozen? ⟨g, 5, none⟩ = false) := fun W W2 b cap hW hg => by
         obtain ⟨t1, t2, t3⟩ := HT.out
         have hO : Off (ownL (.slice A (E.waits k).length c)) w1 W2 := (hW.mono (by simp)).grown hg (fun x hx => .inl (by rw [ownL, hx]; simp))
         have hbg : Bk W2 g 156 _ := hO.bk H1.out.cells t1
         obtain ⟨w3, r1, r2, r3⟩ := (H1.out.map.off hO t3).update (t := 154) Tryz.underlying3 Tryz.underlying154 (by have := H1.out.nn; unfold maxLen; omega) (wf64 (i := (k : Int)) (by omega) (by have := H1.out.ok.most; have := HK2.out; omega)) (.slice (some ⟨b, 0, none⟩) ((E.waits k).length + 1) cap)
         have hb3 : Bk w3 g 156 _ := (r3.block g hbg.lt (fun e => (H1.out.map.ne_bk H1.out.cells) (by injection e))).trans hbg
         exact ⟨w3, r1, r2, r3, by simpa using hbg.cell 1, by simpa using hb3.cell 1, by simpa using hb3.cell 5, hb3.frozen 5⟩
       have hrunA := (HKS.out _ HO.out.drew).2
       have hrunB := (HKS.out _ (HO.out.alloc (.cells #[.string s] 9)).drew).2
       clear hrun
       go_region_held3 (fun W => W.cell? ⟨g, 1, none⟩ = some (.map (some m)))
         (first | exact (HKS.out _ HO.out.drew).1 | exact (HKS.out _ (HO.out.alloc _).drew).1 | assumption)
         ((refine step_append_lies _ (by rfl) _ _ 72 (by rfl) 0 9 inf (.string ByteArray.empty) 1 16 Tryz.underlying72 HI.out HZ0.out HZ1.out HZ2.out (by rfl) (by omega) _ _ _ (by rfl) (HOWN.out.alloc _) _ 1 1 [.string s] (by rfl) (by rfl) (World.news_of_block (heap_alloc_new w1 _)) (strs_one [s]) (by omega) (by unfold maxLen; omega) (by omega) (Nat.zero_le _) (w1.heap.size + 1) (by simp) ?_; intro b cap w2 hown2 hgrow hat hlt; obtain ⟨w3, hupd, hm3, hg3, hc21, hc31, hc3, hf3⟩ := HUP.out _ w2 b cap (((Off.refl [] w1).alloc _).drew) hgrow; have HM3 := Lib.hid hm3; have HG3 := Lib.hid hg3; have HGR := Lib.hid hgrow; have HOW := Lib.hid hown2; have HAT := Lib.hid hat; clear hm3 hg3 hgrow hown2 hat))
       all_goals
         go_wp2_with fail
         go_ret
         exact devPost_of (by rw [HL.out]) (by rw [HL.out]; rfl) (by
           obtain ⟨S', hd', ho', hf'⟩ := write_done H1.out HK2.out H128.out HWS.out HV.out (((Off.refl [] w1).alloc _).drew) HOW.out HGR.out HAT.out hlt HM3.out HG3.out
           refine ⟨S', hd', HOK.out.trans ho', fun x hx => ?_⟩
           rcases hf' x hx with h | h
           · exact .inl h
           · exact .inr (Nat.le_trans HOK.out.size h))
theorem fresh_map {w1 wr W : World} {g : Nat} {S X : List Nat} {D D' : DevS} {l m nn m' : Nat} {B C : Nat → Nat} (h : DevAt w1 g S D l m nn B C) (ho : Off (l :: X) w1 wr) (hX : ∀ x ∈ X, w1.heap.size ≤ x)
   (hl : Bk wr l 9 (strs D'.sec).toArray) (hk : D'.Ok) (hrow : D'.row = []) (hsec : D'.sec.length = D.sec.length) (hg : Bk W g 156 (devCells l D.sec.length m' D'.off D'.fuse D'.steps D'.writes))
   (hm : IMap Tryz.prog 3 W m' 0 (fun _ => none)) (hW : Off [g] wr W) (hm' : w1.heap.size ≤ m') : ∃ S', Dev W g S' D' ∧ Off S w1 W ∧ Fresh w1 S S' := by
 obtain ⟨i1, i2, i3, i4⟩ := h.inS
 have hgl : g ≠ l := Bk.ne h.cells h.sec (by decide)
 have ho1 : Off (g :: l :: X) w1 W := (ho.mono (fun x hx => .inl (List.mem_cons_of_mem _ hx))).then hW (fun x hx => .inl (by simp at hx; simp [hx]))
 have hw : ∀ i, D'.waits i = [] := fun i => by unfold DevS.waits; rw [hrow]; rfl
 refine ⟨m' :: S, ⟨l, m', 0, B, C, ⟨hk, by rw [hsec]; exact hg, hW.bk hl (by simpa using fun e => hgl e.symm), ?_, by have := hk.writes0; omega, fun i hi => absurd (hw i) hi, fun i _ hi => absurd (hw i) hi, fun i hi => absurd (hw i) hi, ⟨List.mem_cons_of_mem _ i1, List.mem_cons_of_mem _ i2, List.mem_cons_self, fun i hi => absurd (hw i) hi⟩, ?_⟩⟩, ?_, ?_⟩
 · rw [hrow]
   have : waitV [] B C = fun _ => none := by funext i; unfold waitV; simp [waitsOf]
   rw [this]
   exact hm
 · intro b hb
   rcases List.mem_cons.1 hb with rfl | hb
   · exact hm.lt
   · exact Nat.lt_of_lt_of_le (h.old b hb) ho1.size
 · refine ho1.mono (fun x hx => ?_)
   rcases List.mem_cons.1 hx with rfl | hx
   · exact .inl i1
   · rcases List.mem_cons.1 hx with rfl | hx
     · exact .inl i2
     · exact .inr (hX x hx)
 · intro b hb
   rcases List.mem_cons.1 hb with rfl | hb
   · exact .inr hm'
   · exact .inl hb
theorem made_set (w : World) (p : Addr) (u : Value) : IMap Tryz.prog 3 ((w.setCell p u).alloc (.map #[] 0)) w.heap.size 0 (fun _ => none) := by
 have h := IMap.made (w.setCell p u) Tryz.prog 3
 have e : (w.setCell p u).heap.size = w.heap.size := by simp [World.setCell]
 rw [e] at h
 exact h
def syncRow (D : DevS) (left : Int → Bool) : List ByteArray := (List.range D.sec.length).map fun (i : Nat) => if left (i : Int) = true then D.sec.getD i ByteArray.empty else D.latest i
theorem syncRow_len (D : DevS) (left : Int → Bool) : (syncRow D left).length = D.sec.length := by simp [syncRow]
theorem latest_nil {D : DevS} {i : Nat} (h : D.waits i = []) : D.latest i = D.sec.getD i ByteArray.empty := by unfold DevS.latest; rw [h]; rfl
theorem waitV_isSome (row : List (Nat × ByteArray)) (B C : Nat → Nat) (i : Nat) : (waitV row B C (i : Int)).isSome = !(waitsOf row i).isEmpty := by
 unfold waitV
 rw [Int.toNat_natCast]
 cases hw : waitsOf row i with
 | nil => rw [if_neg (fun e => e.2 rfl)]; rfl
 | cons a b => rw [if_pos ⟨by omega, by simp⟩]; rfl
theorem syncRow_start (D : DevS) (B C : Nat → Nat) : syncRow D (fun i => (waitV D.row B C i).isSome) = D.sec := by
 refine List.ext_getElem (by simp [syncRow]) (fun i h1 h2 => ?_)
 simp only [syncRow, List.getElem_map, List.getElem_range]
 have e : D.sec.getD i ByteArray.empty = D.sec[i] := by rw [List.getD_eq_getElem?_getD, List.getElem?_eq_getElem h2]; rfl
 rw [waitV_isSome]
 by_cases hn : waitsOf D.row i = []
 · rw [hn, latest_nil (by exact hn), e]; simp
 · have : (!(waitsOf D.row i).isEmpty) = true := by cases hw : waitsOf D.row i with
     | nil => exact absurd hw hn
     | cons a b => rfl
   rw [this, if_pos rfl, e]
theorem syncRow_step (D : DevS) (left : Int → Bool) (k : Nat) (hk : k < D.sec.length) :
   (strs (syncRow D (fun j => left j && !decide (j = (k : Int))))).toArray = (strs (syncRow D left)).toArray.setIfInBounds k (.string (D.latest k)) := by
 have e : syncRow D (fun j => left j && !decide (j = (k : Int))) = (syncRow D left).set k (D.latest k) := by
   refine List.ext_getElem (by simp [syncRow]) (fun i h1 h2 => ?_)
   rw [List.getElem_set]
   simp only [syncRow, List.getElem_map, List.getElem_range]
   by_cases hik : k = i
   · subst hik
     simp
   · have : ¬ ((i : Int) = (k : Int)) := by omega
     rw [if_neg hik]
     simp [this]
 rw [e]
 simp [strs, List.map_set]
theorem syncRow_end (D : DevS) (left : Int → Bool) (h : ∀ i, left i = false) : syncRow D left = D.synced.sec := by
 unfold syncRow DevS.synced
 simp [h]
theorem waitV_some {row : List (Nat × ByteArray)} {B C : Nat → Nat} {i : Int} {v : Value} (h : waitV row B C i = some v) :
   ∃ k n, i = ((k : Nat) : Int) ∧ (waitsOf row k).length = n + 1 ∧ v = .slice (some ⟨B k, 0, none⟩) (n + 1) (C k) := by
 unfold waitV at h
 by_cases hc : 0 ≤ i ∧ waitsOf row i.toNat ≠ []
 · rw [if_pos hc] at h
   injection h with h
   have h1 := List.length_pos_iff.2 hc.2
   refine ⟨i.toNat, (waitsOf row i.toNat).length - 1, by omega, by omega, ?_⟩
   rw [← h]
   have : (waitsOf row i.toNat).length - 1 + 1 = (waitsOf row i.toNat).length := by omega
   rw [this]
 · rw [if_neg hc] at h
   cases h
set_option maxHeartbeats 4000000 in
theorem dsync_any {g : Nat} {S : List Nat} {D : DevS} {w : World} (hd : Dev w g S D) (hb : D.steps ≤ 1000000000) :
   Calls Tryz.prog 116 #[ptr g] w (DevPost g S D.sync.1 (.int .i64 D.sync.2) w) := by
 obtain ⟨l, m, nn, B, C, h⟩ := hd
 have HD := Lib.hid h
 cases hok : D.stepOk with
 | false =>
   have HL : Hid (D.sync = (D.stepped, 6)) := show _ = _ by unfold DevS.sync; rw [hok]; rfl
   clear h
   go_enter Tryz.func116, Tryz.ntmps116
   go_wp2_with (go_at_call 173; refine (dstep_any HD.out.cells HD.out.ok hb).mono ?_; rintro e w2 ⟨rfl, hb2, ho2⟩; rw [hok]; have HB2 := Lib.hid hb2; have HO2 := Lib.hid ho2; clear hb2 ho2)
   go_ret
   exact devPost_of (by rw [HL.out]) (by rw [HL.out]; rfl) ⟨S, ⟨l, m, nn, B, C, HD.out.stepped HB2.out HO2.out⟩, HO2.out.mono (fun x hx => .inl (by simp at hx; rw [hx]; exact HD.out.inS.1)), Fresh.refl _ _⟩
 | true =>
   have HL : Hid (D.sync = (D.stepped.synced, 0)) := show _ = _ by unfold DevS.sync; rw [hok]; rfl
   have hmm := @run_makeMap Tryz.prog
   clear h
   go_enter Tryz.func116, Tryz.ntmps116
   go_wp2_with (first
     | (go_at_call 173; refine (dstep_any HD.out.cells HD.out.ok hb).mono ?_; rintro e w1 ⟨rfl, hb1, ho1⟩; rw [hok]; have H1 := Lib.hid (HD.out.stepped hb1 ho1); have HO1 := Lib.hid ho1; clear hb1 ho1; obtain ⟨c0, c1, c2, c3, c4, c5⟩ := H1.out.cells.six; clear c2 c3 c4 c5)
     | (at_range; refine wpList_range_imap rfl _ 154 rfl 72 Tryz.underlying3 Tryz.underlying154 rfl H1.out.map ?_; intro w2 cnt hrg hgr hsz; have HRG := Lib.hid hrg; have HGR := Lib.hid hgr; have HSZ := Lib.hid hsz; clear hrg hgr hsz)
     | fail)
   go_frame
   have HLM : Hid (l ≠ m ∧ g ≠ m ∧ g ≠ l) := ⟨H1.out.map.ne_bk H1.out.sec, H1.out.map.ne_bk H1.out.cells, Bk.ne H1.out.cells H1.out.sec (by decide)⟩
   have hwr : D.stepped.writes ≤ 1000000000 := by rw [D.stepped_writes]; have := HD.out.ok.writesS; omega
   generalize D.stepped = E at *
   clear c0 c1
   go_loopw [3] (fun _ wr => ∃ left cnt, IRange Tryz.prog 3 wr m w1.heap.size nn (waitV E.row B C) left cnt ∧ Bk wr l 9 (strs (syncRow E left)).toArray ∧ Off [l, w1.heap.size] w1 wr) (fun _ wr => wr.rangeLeft m w1.heap.size)
   case atStart =>
     have hO : Off [] w1 w2 := (Off.refl [] w1).grown HGR.out (fun x hx => by cases hx)
     exact ⟨_, _, HRG.out, by rw [syncRow_start]; exact hO.bk H1.out.sec (by simp), hO.mono (by simp)⟩
   case round =>
     obtain ⟨left, cnt2, hrg2, hbl2, hoff2⟩ := hrel
     have HRG2 := Lib.hid hrg2
     have HBL2 := Lib.hid hbl2
     have HOFF2 := Lib.hid hoff2
     clear hrg2 hbl2 hoff2
     go_wp2_with (first
       | (at_next; refine wpList_next_imap rfl _ rfl Tryz.underlying3 rfl HRG2.out ?_ ?_)
       | fail)
     · intro hend
       have HEND := Lib.hid hend
       clear hend
       have hg0 : Bk wr g 156 _ := HOFF2.out.bk H1.out.cells (by have := H1.out.cells.lt; have := HLM.out; simp; omega)
       have HG0 := Lib.hid hg0
       have hcell := hg0.six.2.1
       have hfr := hg0.frozen 1
       have hcellA := (hg0.alloc (.map #[] 0)).six.2.1
       have hfrA := (hg0.alloc (.map #[] 0)).frozen 1
       have hgw := hg0.lt
       clear hg0
       go_wp2_with fail
       go_ret
       exact devPost_of (by rw [HL.out]) (by rw [HL.out]; rfl) (by
         have hrow := syncRow_end E left HEND.out
         obtain ⟨S', h1, h2, h3⟩ := fresh_map (D' := E.synced) (m' := wr.heap.size) (W := (wr.setCell ⟨g, 1, none⟩ (.map (some wr.heap.size))).alloc (.map #[] 0)) H1.out (X := [w1.heap.size]) HOFF2.out (by simp) (by rw [← hrow]; exact HBL2.out) H1.out.ok.synced rfl (by simp [DevS.synced])
           ((HG0.out.put 1 _).alloc _) (made_set wr _ _) (((Off.refl [g] wr).setCell (.inl (by simp)) _).alloc _) HOFF2.out.size
         exact ⟨S', h1, (HO1.out.mono (fun x hx => .inl (by simp at hx; rw [hx]; exact H1.out.inS.1))).trans h2, fun x hx => (h3 x hx).imp_right (Nat.le_trans HO1.out.size)⟩)
     · intro i v w3 cnt3 hV hleft hrg3 hcnt hgr3 hsz3 hen
       obtain ⟨k, n, rfl, hn, rfl⟩ := waitV_some hV
       have hoff3 : Off [l, w1.heap.size] w1 w3 := HOFF2.out.grown hgr3 (fun x hx => by injection hx with hx; exact .inl (by simp [hx]))
       have hwk : E.waits k ≠ [] := by unfold DevS.waits; intro e; rw [e] at hn; simp at hn
       have hk : k < E.sec.length := by
         rcases Nat.lt_or_ge k E.sec.length with h | h
         · exact h
         · exact absurd (DevS.waits_nil_of_ge H1.out.ok h) hwk
       obtain ⟨t1, t2, t3⟩ := HLM.out
       have hgn : g ∉ [l, w1.heap.size] := by have := H1.out.cells.lt; simp; omega
       have hBn : B k ∉ [l, w1.heap.size] := by have := H1.out.apartL k hwk; have := H1.out.old _ (H1.out.inS.2.2.2 k hwk); simp; omega
       have hown3 := hoff3.own (H1.out.own k hwk) (fun b hb => by
         have : b = B k := by simpa [Value.ownBlock] using hb.symm
         subst this
         exact hBn)
       have hlat : E.latest k = (E.waits k)[n]'(by unfold DevS.waits; omega) := by
         unfold DevS.latest
         have hn' : (E.waits k).length = n + 1 := hn
         rw [List.getLastD_eq_getLast?, List.getLast?_eq_getElem?, List.getElem?_eq_getElem (by omega)]
         simp [hn']
       obtain ⟨b, o, hbo, hblt, hc2⟩ := Sl.of_own hown3 n (.string (E.latest k)) (by rw [hlat]; simp [strs])
       injection hbo with hbo
       injection hbo with hb1 ho1
       subst hb1
       subst ho1
       rw [Nat.zero_add] at hc2
       have hbl3 : Bk w3 l 9 (strs (syncRow E left)).toArray := (hgr3.block l HBL2.out.lt (fun e => by have := H1.out.sec.lt; injection e with e; omega)).trans HBL2.out
       have hfl := hbl3.frozen k
       have hcg : w3.cell? ⟨g, 0, none⟩ = some (.slice (some ⟨l, 0, none⟩) E.sec.length E.sec.length) := (hoff3.bk H1.out.cells hgn).six.1
       have hkl : k < (syncRow E left).length := by rw [syncRow_len]; exact hk
       have hcl : w3.cell? ⟨l, k, none⟩ = some (.string (syncRow E left)[k]) := by rw [hbl3.cell k]; simp [strs, hkl]
       have hn9 : n < 1000000000 := by
         have t1 := waitsOf_length_le E.row k
         have t2 := H1.out.ok.rowW
         omega
       have hBl : B k ≠ l := H1.out.apartL k hwk
       have i0 : (0 : Int) ≤ (k : Int) := by omega
       have i1 : (k : Int) < (E.sec.length : Int) := by omega
       have HKS : Hid (∀ W, Off [l] w3 W → W.cell? ⟨g, 0, none⟩ = some (.slice (some ⟨l, 0, none⟩) E.sec.length E.sec.length) ∧ W.cell? ⟨B k, n, none⟩ = some (.string (E.latest k))) := fun W hW => ⟨(hW.cell (p := ⟨g, 0, none⟩) (Nat.lt_of_lt_of_le H1.out.cells.lt hoff3.size) (by simpa using t3)).trans hcg, (hW.cell (p := ⟨B k, n, none⟩) hblt (by simpa using hBl)).trans hc2⟩
       have HRG3 := Lib.hid hrg3
       have HBL3 := Lib.hid hbl3
       have HOFF3 := Lib.hid hoff3
       have HCNT := Lib.hid hcnt
       clear hBl hrg3 hbl3 hoff3 hcnt hV hleft hgr3 hn hwk hgn hBn hown3 hlat hsz3
       obtain ⟨N, hN⟩ : ∃ N, N = n + 1 := ⟨_, rfl⟩
       rw [← hN] at hen ⊢
       have hs2 : ((N : Int) - 1) = (n : Int) := by omega
       have hs1 : IntKind.i64.wrap ((N : Int) - 1) = (n : Int) := by rw [hs2]; exact IntWalk.i64_in _ (by omega)
       have hs3 : (0 : Int) ≤ (n : Int) := by omega
       have hs4 : (n : Int) < (N : Int) := by omega
       have hs5 : n < N := by omega
       have hs6 : IntKind.i64.wrap (n : Int) = (n : Int) := IntWalk.i64_in _ (by omega)
       have HN := Lib.hid hN
       clear hN
       go_wp2_with fail
       go_region_held3 (fun W => W.cell? ⟨g, 0, none⟩ = some (.slice (some ⟨l, 0, none⟩) E.sec.length E.sec.length) ∧ W.cell? ⟨B k, n, none⟩ = some (.string (E.latest k)))
         (first | exact HKS.out _ (Off.refl [l] w3).drew | exact HKS.out _ ((Off.refl [l] w3).setCell (.inl (by simp)) _).drew)
         (fail)
       all_goals
         go_roundw
         case rel =>
           have hm' := Below.heap_setCell w3 ⟨l, k, none⟩ (.string (E.latest k)) m (fun e => HLM.out.1 e.symm)
           have hr' := Below.heap_setCell w3 ⟨l, k, none⟩ (.string (E.latest k)) w1.heap.size (by have := H1.out.sec.lt; show w1.heap.size ≠ l; omega)
           (repeat apply Exists.intro)
           refine ⟨⟨_, cnt3, HRG3.out.of_heap hm' hr', ?_, ?_⟩, rfl⟩
           · rw [syncRow_step E left k hk]; exact HBL3.out.put k _
           · exact (HOFF3.out.setCell (.inl (by simp)) _).drew
         case measure =>
           have hm' := Below.heap_setCell w3 ⟨l, k, none⟩ (.string (E.latest k)) m (fun e => HLM.out.1 e.symm)
           have hr' := Below.heap_setCell w3 ⟨l, k, none⟩ (.string (E.latest k)) w1.heap.size (by have := H1.out.sec.lt; show w1.heap.size ≠ l; omega)
           have h4 : IRange Tryz.prog 3 (w3.setCell ⟨l, k, none⟩ (.string (E.latest k))).drew m w1.heap.size nn (waitV E.row B C) _ cnt3 := HRG3.out.of_heap hm' hr'
           rw [h4.left_eq, HRG2.out.left_eq]
           exact HCNT.out
end Go.Proofs.YtjbcbnemdhbhbaaGreatDoor

import Derived.Test.YtjbcbnemdhbhbaaGreatDoorG6
import Derived.Test.YtjbcbnemdhbhbaaGreatDoorG0
import Derived.Laws.MakeOwn
import Derived.Laws.CopyOwn
import Derived.Test.YtjbcbnemdhbhbaaGreatDoorG7
namespace Go.Proofs.YtjbcbnemdhbhbaaGreatDoor
open Go.RowKit
open Go.PlainAid
set_option maxRecDepth 100000
set_option linter.unusedVariables false
set_option linter.unusedSimpArgs false
theorem mul_one_any (n : Nat) (hn : n ≤ 2048) (w : World) : Calls Tryz.prog 150 #[.int .u64 1, .int .u64 (n : Int)] w fun e w' => e = .returned (.tuple #[.int .u64 0, .int .u64 (n : Int)]) ∧ w = w' := by
 refine (Tryz.bits_Mul 1 n (by omega) (by omega) w).mono ?_
 rintro e w' ⟨rfl, rfl⟩
 refine ⟨?_, rfl⟩
 have h1 : 1 * n / 18446744073709551616 = 0 := by omega
 have h2 : 1 * n % 18446744073709551616 = n := by omega
 rw [h1, h2]
 rfl
def repRow (x : ByteArray) (n k : Nat) : List Value := List.replicate k (.string x) ++ List.replicate (n - k) (.string ByteArray.empty)
theorem repRow_len (x : ByteArray) {n k : Nat} (h : k ≤ n) : (repRow x n k).length = n := by simp [repRow]; omega
theorem repRow_end (x : ByteArray) (n : Nat) : repRow x n n = List.replicate n (.string x) := by simp [repRow]
theorem repRow_splice (x : ByteArray) (n k m : Nat) (h : k + m ≤ n) : splice (repRow x n k) k (List.replicate m (.string x)) = repRow x n (k + m) := by
 unfold splice repRow
 rw [List.take_left' (by simp), ← List.append_assoc, List.replicate_append_replicate, List.length_replicate, List.drop_append, List.drop_of_length_le (by simp), List.length_replicate, List.nil_append, List.drop_replicate]
 congr 2
 omega
theorem repRow_cell {w : World} {b n k : Nat} {x : ByteArray} (h : Bk w b 9 (repRow x n k).toArray) (m : Nat) (hm : m ≤ k) : ∀ (j : Nat) v, (List.replicate m (Value.string x))[j]? = some v → w.cell? ((⟨b, 0, none⟩ : Addr).add j) = some v := by
 intro j v hv
 obtain ⟨hj, rfl⟩ := List.getElem?_eq_some_iff.1 hv
 simp at hj
 rw [add_zero_addr, h.cell j]
 simp only [List.getElem_replicate]
 unfold repRow
 rw [List.getElem?_toArray, List.getElem?_append_left (by simp; omega), List.getElem?_replicate, if_pos (by omega)]
theorem rep_one (x : ByteArray) (m : Nat) : ∀ v ∈ List.replicate m (Value.string x), v.oneCell' = true := by
 intro v hv
 obtain ⟨_, rfl⟩ := List.mem_replicate.1 hv
 rfl
def RepPost (x : ByteArray) (n : Nat) (w : World) (e : Ending) (w' : World) : Prop :=
 e = .returned (.slice (some ⟨w.heap.size, 0, none⟩) n n) ∧ Bk w' w.heap.size 9 (List.replicate n (Value.string x)).toArray ∧ Below w.heap.size w w'
set_option maxHeartbeats 4000000 in
theorem repeat_strs (x : ByteArray) (b n : Nat) (w : World) (hb : Bk w b 9 #[.string x]) (h0 : 0 < n) (h1 : n ≤ 2048) :
   Calls Tryz.prog 97 #[.slice (some ⟨b, 0, none⟩) 1 1, .int .i64 (n : Int)] w (RepPost x n w) := by
 have HB := Lib.hid hb
 obtain ⟨inf, hi, hz0, hz1, hz2⟩ := info_parts info_str
 have hmk : ∀ W : World, (Instr.makeSlice 72 (.int .i64 (n : Int)) (.int .i64 (n : Int))).run Tryz.prog W = .ok (.slice (some ⟨W.heap.size, 0, none⟩) n n) (W.alloc (.cells (repRow x n 0).toArray 9)) := fun W => by
   have h := run_make (P := Tryz.prog) W 72 9 inf (.string ByteArray.empty) Tryz.underlying72 hi hz0 .i64 .i64 (n : Int) (n : Int) (by omega) (Int.le_refl _) (by rw [hz2]; omega) (by omega)
   rw [Int.toNat_natCast, hz1, Nat.mul_one] at h
   rw [h]
   have e : madeCells (Value.string ByteArray.empty).cells n = (repRow x n 0).toArray := by
     unfold madeCells repRow
     refine Array.ext (by simp) (fun i h1 h2 => ?_)
     simp [Value.cells, Nat.mod_one]
   rw [e]
 clear hi hz0 hz1 hz2 hb
 have q1 : decide ((n : Int) < 0) = false := by simp
 have q2 : decide ((9223372036854775807 : Int) < (n : Int)) = false := by simp; omega
 have HN := Lib.hid h1
 have hszs : (Tryz.prog.info? 9).map (·.size) = some 1 := by kernel_rfl
 have hmin : Nat.min 1 n = 1 := by simp [Nat.min_def]; omega
 have HMIN := Lib.hid hmin
 have HSRC : Hid (∀ j v, [Value.string x][j]? = some v → (w.alloc (.cells (repRow x n 0).toArray 9)).cell? ((⟨b, 0, none⟩ : Addr).add j) = some v) := fun j v hv => by
   obtain ⟨hj, rfl⟩ := List.getElem?_eq_some_iff.1 hv
   simp at hj
   subst hj
   rw [add_zero_addr]
   simpa using (HB.out.alloc (.cells (repRow x n 0).toArray 9)).cell 0
 have HFIT : Hid (0 + [Value.string x].length ≤ (repRow x n 0).length) := show _ ≤ _ by rw [repRow_len x (by omega)]; simp; omega
 have HSZS := Lib.hid hszs
 clear hmin hszs
 go_enter Tryz.func97, Tryz.ntmps97
 go_wp2_with (first
   | (go_at_call 150; refine (mul_one_any n HN.out _).mono ?_; rintro e w' ⟨rfl, rfl⟩)
   | (refine wpList_copy_splice rfl (.tmp 31) (.tmp 32) 72 72 rfl 9 Tryz.underlying72 HSZS.out _ _ n n 1 1 rfl rfl w.heap.size 0 (repRow x n 0) 9 (heap_alloc_new w _) [.string x] (by rw [HMIN.out]; rfl) (fun _ => ⟨rfl, _, rfl, HSRC.out⟩) HFIT.out (rep_one x 1) w.heap.size w (Below.alloc (Below.refl _ _) (Nat.le_refl _) _) (Nat.le_refl _) ?_; intro w2 hg2 hb2)
   | fail)
 have HB2 := Lib.hid hb2
 have hR : w.heap.size < w2.heap.size := lt_of_block hg2.out
 clear hb2
 go_loopw [8] (fun c wr => ∃ k : Nat, 1 ≤ k ∧ k ≤ n ∧ c = .int .i64 (k : Int) ∧ Bk wr w.heap.size 9 (repRow x n k).toArray ∧ Below w.heap.size w wr) (fun c _ => n - (intOf c).toNat)
 case atStart =>
   refine ⟨1, Nat.le_refl _, by omega, rfl, ?_, HB2.out⟩
   have h := hg2.out
   have e : splice (repRow x n 0) 0 [Value.string x] = repRow x n 1 := repRow_splice x n 0 1 (by omega)
   rw [e] at h
   exact h
 case round =>
   obtain ⟨k, hk1, hk2, rfl, hbk, hbel⟩ := hrel
   have HBK := Lib.hid hbk
   have HBE := Lib.hid hbel
   clear hbk hbel
   by_cases hlt : k < n
   · have hm1 : Nat.min k (n - k) ≤ k := Nat.min_le_left _ _
     have hm2 : Nat.min k (n - k) ≤ n - k := Nat.min_le_right _ _
     have hm0 : 0 < Nat.min k (n - k) := by simp only [Nat.min_def]; split <;> omega
     have HMN : Hid (Nat.min k (n - k) = Nat.min k (n - k)) := rfl
     generalize hM : Nat.min k (n - k) = M at *
     have HM := Lib.hid hM
     have i0 : (0 : Int) ≤ (k : Int) := by omega
     have i1 : (k : Int) ≤ (n : Int) := by omega
     have i2 : decide ((k : Int) < (n : Int)) = true := by simp; omega
     have i3 : IntKind.i64.wrap ((k : Int) + (M : Int)) = (k : Int) + (M : Int) := IntWalk.i64_in _ (by omega)
     have i4 : ¬ (n = k) := by omega
     have HLEN : Hid ((List.replicate M (Value.string x)).length = Nat.min k (n - k)) := show _ = _ by rw [HM.out]; simp
     have HF2 : Hid (k + (List.replicate M (Value.string x)).length ≤ (repRow x n k).length) := show _ ≤ _ by rw [repRow_len x hk2]; simp; omega
     have HSR : Hid (∀ j v, (List.replicate M (Value.string x))[j]? = some v → wr.cell? ((⟨w.heap.size, 0, none⟩ : Addr).add j) = some v) := repRow_cell HBK.out M hm1
     clear hM HMN
     go_wp2_with fail
     go_region_held3 (fun W => True) (trivial)
       ((refine step_copy_splice rfl (.tmp 41) (.tmp 44) 72 72 (by rfl) 9 Tryz.underlying72 HSZS.out _ _ (n - k) (n - k) k n (by rfl) (by rfl) w.heap.size k (repRow x n k) 9 HBK.out (List.replicate M (.string x)) HLEN.out (fun _ => ⟨rfl, _, rfl, HSR.out⟩) HF2.out (rep_one x M) w.heap.size w HBE.out.drew (Nat.le_refl _) ?_; intro w3 hg3 hb3))
     go_roundw
     case rel =>
       (repeat apply Exists.intro)
       refine ⟨⟨k + M, by omega, by omega, ?_, ?_, hb3⟩, rfl⟩
       · simp
       · have h := hg3.out
         rw [repRow_splice x n k M (by omega)] at h
         exact h
     case measure => simp [intOf]; omega
   · obtain rfl : k = n := by omega
     have i2 : decide ((k : Int) < (k : Int)) = false := by simp
     go_wp2_with fail
     go_ret
     exact ⟨rfl, by rw [← repRow_end]; exact HBK.out, HBE.out⟩
def zerosN (n : Nat) : Array Value := (u8s (List.replicate n 0)).toArray
theorem zerosN_made (n : Nat) : madeCells (Value.int .u8 0).cells n = zerosN n := by
 unfold madeCells zerosN u8s
 refine Array.ext (by simp) (fun i h1 h2 => ?_)
 simp [Value.cells, Nat.mod_one]
theorem zerosN_at (n j : Nat) (h : j < (List.replicate n (0 : UInt8)).length) : (zerosN n)[j]? = some (.int .u8 ((List.replicate n (0 : UInt8))[j].toNat : Int)) := by
 unfold zerosN u8s
 simp at h
 simp [h]
def zeros : Array Value := zerosN 128
theorem make_zeros (W : World) : (Instr.makeSlice 36 (.int .i64 128) (.int .i64 128)).run Tryz.prog W = .ok (.slice (some ⟨W.heap.size, 0, none⟩) 128 128) (W.alloc (.cells zeros 5)) := by
 obtain ⟨inf, hi, hz0, hz1, hz2⟩ := info_parts info_u8
 have h := run_make (P := Tryz.prog) W 36 5 inf (.int .u8 0) Tryz.underlying36 hi hz0 .i64 .i64 128 128 (by omega) (Int.le_refl _) (by rw [hz2]; omega) (by omega)
 rw [hz1, zerosN_made] at h
 exact h
theorem conv_zeros (w : World) : (convert 36 9 (.slice (some ⟨w.heap.size, 0, none⟩) 128 128)).run Tryz.prog (w.alloc (.cells zeros 5)) = .ok (.string DevS.noughts) (w.alloc (.cells zeros 5)) := by
 refine conv_cells (W := w.alloc (.cells zeros 5)) (g := w.heap.size) (o := 0) (L := List.replicate 128 0) List.length_replicate.symm (fun j hj => ?_)
 rw [Nat.zero_add, (Bk.new w 5 zeros).cell j]
 exact zerosN_at 128 j hj
def NewPost (n : Nat) (w : World) (e : Ending) (w' : World) : Prop :=
 ∃ g S, e = .returned (.tuple #[ptr g, .int .i64 0]) ∧ Dev w' g S (DevS.new n) ∧ Below w.heap.size w w' ∧ ∀ b ∈ S, w.heap.size ≤ b
theorem new_done {W : World} {n g l m : Nat} (h0 : 0 < n) (h1 : n ≤ 2048) (hl : Bk W l 9 (List.replicate n (Value.string DevS.noughts)).toArray)
   (hm : IMap Tryz.prog 3 W m 0 (fun _ => none)) (hg : Bk W g 156 (devCells l n m false 0 0 0)) : Dev W g [g, l, m] (DevS.new n) := by
 have e : (strs (DevS.new n).sec).toArray = (List.replicate n (Value.string DevS.noughts)).toArray := by simp [strs, DevS.new]
 have el : (DevS.new n).sec.length = n := by simp [DevS.new]
 refine ⟨l, m, 0, id, id, ⟨DevS.Ok.new h0 h1, by rw [el]; exact hg, by rw [e]; exact hl, ?_, Int.le_refl _, fun i hi => absurd rfl hi, fun i _ hi => absurd rfl hi, fun i hi => absurd rfl hi, ⟨by simp, by simp, by simp, fun i hi => absurd rfl hi⟩, ?_⟩⟩
 · have : waitV (DevS.new n).row id id = fun _ => none := by funext i; unfold waitV; simp [waitsOf, DevS.new]
   rw [this]
   exact hm
 · intro b hb
   simp at hb
   rcases hb with rfl | rfl | rfl
   · exact hg.lt
   · exact hl.lt
   · exact hm.lt
set_option maxHeartbeats 4000000 in
theorem dnew_any (n : Nat) (w : World) (h0 : 0 < n) (h1 : n ≤ 2048) :
   Calls Tryz.prog 41 #[.int .i64 (n : Int)] w (NewPost n w) := by
 have q0 : decide ((n : Int) < 1) = false := by simp; omega
 have q1 : decide ((2048 : Int) < (n : Int)) = false := by simp; omega
 have H0 := Lib.hid h0
 have H1 := Lib.hid h1
 have hmk := make_zeros
 have hcv := conv_zeros w
 have hmm := @run_makeMap Tryz.prog
 clear h0 h1
 obtain ⟨s0, hs0⟩ : ∃ s0, s0 = DevS.noughts := ⟨_, rfl⟩
 rw [← hs0] at hcv
 have HS0 := Lib.hid hs0
 clear hs0
 generalize zeros = z0 at *
 have hbk : Bk ((w.alloc (.cells z0 5)).alloc (.cells #[.string s0] 9)) (w.heap.size + 1) 9 #[.string s0] := by
   have h := Bk.new (w.alloc (.cells z0 5)) 9 #[.string s0]
   rw [show (w.alloc (.cells z0 5)).heap.size = w.heap.size + 1 from by simp] at h
   exact h
 have HBK := Lib.hid hbk
 clear hbk
 go_enter Tryz.func41, Tryz.ntmps41
 go_wp2_with (first
   | (go_at_call 97; (with_reducible refine (repeat_strs s0 (w.heap.size + 1) n _ HBK.out H0.out H1.out).mono ?_); rintro e w2 ⟨rfl, hb2, hbel2⟩; have HB2 := Lib.hid hb2; have HBEL2 := Lib.hid hbel2; clear hb2 hbel2)
   | fail)
 go_ret2
 have hb := HB2.out
 have hbel := HBEL2.out
 have hsz : ((w.alloc (.cells z0 5)).alloc (.cells #[.string s0] 9)).heap.size = w.heap.size + 1 + 1 := by simp
 rw [hsz] at hb hbel
 have hbw : Below w.heap.size w w2 := ((((Below.refl _ w).alloc (Nat.le_refl _) _).alloc (by simp) _).trans (hbel.mono (by omega)))
 have hlt := hb.lt
 have hg := Bk.new (w2.alloc (.map #[] 0)) 156 (devCells (w.heap.size + 1 + 1) n w2.heap.size false 0 0 0)
 have hsz2 : (w2.alloc (.map #[] 0)).heap.size = w2.heap.size + 1 := by simp
 rw [hsz2] at hg
 refine ⟨w2.heap.size + 1, [w2.heap.size + 1, w.heap.size + 1 + 1, w2.heap.size], rfl, new_done H0.out H1.out ?_ ?_ hg, ?_, ?_⟩
 · rw [← HS0.out]; exact (hb.alloc _).alloc _
 · exact (IMap.made w2 Tryz.prog 3).of_heap (Below.heap_alloc _ _ _ (by simp))
 · exact (hbw.alloc (by omega) _).alloc (by simp; omega) _
 · intro b hb
   simp at hb
   omega
def UnpackMPost (s : ByteArray) (w : World) (e : Ending) (w' : World) : Prop :=
 e = .returned (.tuple #[metaV (unmT s) (unmR s) (unmF s) (unmP s) (unmL s), .int .i64 (unmE s)]) ∧ Below w.heap.size w w'
theorem unpackMPost_no {s : ByteArray} {w w' : World} (h : unmB s = false) (hb : Below w.heap.size w w') : UnpackMPost s w (.returned (.tuple #[.agg #[.int .i64 0, .int .i64 0, .int .i64 0, .int .i64 0, .int .i64 0], .int .i64 4])) w' := by
 obtain ⟨h1, h2, h3, h4, h5, h6⟩ := unm_no h
 unfold UnpackMPost
 rw [h1, h2, h3, h4, h5, h6]
 exact ⟨rfl, hb⟩
theorem unpackMPost_of {s : ByteArray} {t r f p l : Int} {w w' : World} (h : IsMeta s t r f p l) (hb : Below w.heap.size w w') : UnpackMPost s w (.returned (.tuple #[.agg #[.int .i64 t, .int .i64 r, .int .i64 f, .int .i64 p, .int .i64 l], .int .i64 0])) w' := by
 obtain ⟨h1, h2, h3, h4, h5, h6⟩ := unm_of h
 unfold UnpackMPost
 rw [h1, h2, h3, h4, h5, h6]
 exact ⟨rfl, hb⟩
theorem unmB_size {s : ByteArray} (h : s.size ≠ 128) : unmB s = false := by
 cases hu : unmB s with
 | false => rfl
 | true => exact absurd (unmB_yes hu).says.1 h
theorem unmB_pre {s : ByteArray} (h : hasPre s ⟨#[82, 79, 76, 76, 66, 79, 79, 75]⟩ = false) : unmB s = false := by
 cases hu : unmB s with
 | false => rfl
 | true =>
   obtain ⟨_, ⟨r, hr⟩, _⟩ := (unmB_yes hu).says
   have : hasPre s ⟨#[82, 79, 76, 76, 66, 79, 79, 75]⟩ = true := by
     unfold hasPre
     rw [ByteArray.toList_eq, ByteArray.toList_eq, extract_list, hr]
     rfl
   rw [this] at h
   cases h
theorem unmB_again {s : ByteArray} {tz : Int} (ht : tz = wrap64 (numAt s 8 8)) :
   (metaE tz (numAt s 16 4) (numAt s 20 4) (numAt s 24 4) (numAt s 28 4) = 4 ∧ Hid (unmB s = false)) ∨
   (metaE tz (numAt s 16 4) (numAt s 20 4) (numAt s 24 4) (numAt s 28 4) = 0 ∧ ((metaS tz (numAt s 16 4) (numAt s 20 4) (numAt s 24 4) (numAt s 28 4)).toList == s.toList) = false ∧ Hid (unmB s = false)) ∨
   (metaE tz (numAt s 16 4) (numAt s 20 4) (numAt s 24 4) (numAt s 28 4) = 0 ∧ s = metaS tz (numAt s 16 4) (numAt s 20 4) (numAt s 24 4) (numAt s 28 4) ∧ Hid (IsMeta s tz (numAt s 16 4) (numAt s 20 4) (numAt s 24 4) (numAt s 28 4))) := by
 have key : unmB s = true → IsMeta s tz (numAt s 16 4) (numAt s 20 4) (numAt s 24 4) (numAt s 28 4) := by
   intro hu
   have hp := unmB_yes hu
   have h1 := (rightM_yes hp.1)
   have e1 : tz = numAt s 8 8 := by rw [ht]; exact IntWalk.wrap64_in _ ⟨by omega, by omega⟩
   rw [e1]
   exact hp
 cases hr : rightM tz (numAt s 16 4) (numAt s 20 4) (numAt s 24 4) (numAt s 28 4) with
 | false =>
   refine .inl ⟨metaE_wrong hr, ?_⟩
   show unmB s = false
   cases hu : unmB s with
   | false => rfl
   | true => have := (key hu).1; rw [this] at hr; cases hr
 | true =>
   by_cases he : metaS tz (numAt s 16 4) (numAt s 20 4) (numAt s 24 4) (numAt s 28 4) = s
   · exact .inr (.inr ⟨metaE_right hr, he.symm, hr, he⟩)
   · refine .inr (.inl ⟨metaE_right hr, toList_ne he, ?_⟩)
     show unmB s = false
     cases hu : unmB s with
     | false => rfl
     | true => exact absurd (key hu).2 he
set_option maxHeartbeats 4000000 in
theorem unpackM_a (s : ByteArray) (w : World) (h : s.size ≠ 128) : Calls Tryz.prog 154 #[.string s] w (UnpackMPost s w) := by
 have q : ((s.size : Int) != 128) = true := by simp; omega
 have HU := Lib.hid (unmB_size h)
 clear h
 go_enter Tryz.func154, Tryz.ntmps154
 go_wp2_with fail
 exact bodyPost_ret (v := .tuple #[.agg #[.int .i64 0, .int .i64 0, .int .i64 0, .int .i64 0, .int .i64 0], .int .i64 4]) (by simp [results, Tryz.results154, go_sem]) rfl (unpackMPost_no HU.out (by first | exact (Below.refl _ _).alloc (Nat.le_refl _) _ | exact ((Below.refl _ _).alloc (Nat.le_refl _) _).drew))
set_option maxHeartbeats 4000000 in
theorem unpackM_b (s : ByteArray) (w : World) (h : s.size = 128) (hp : hasPre s ⟨#[82, 79, 76, 76, 66, 79, 79, 75]⟩ = false) : Calls Tryz.prog 154 #[.string s] w (UnpackMPost s w) := by
 have q : ((s.size : Int) != 128) = false := by simp; omega
 have HU := Lib.hid (unmB_pre hp)
 have HP := Lib.hid fun W => hasPrefix_any s ⟨#[82, 79, 76, 76, 66, 79, 79, 75]⟩ W (by omega) (by rw [h]; decide)
 rw [hp] at HP
 clear h hp
 go_enter Tryz.func154, Tryz.ntmps154
 go_wp2_with (first | (go_at_call 210; refine (HP.out _).mono ?_; rintro e w' ⟨rfl, rfl⟩) | fail)
 exact bodyPost_ret (v := .tuple #[.agg #[.int .i64 0, .int .i64 0, .int .i64 0, .int .i64 0, .int .i64 0], .int .i64 4]) (by simp [results, Tryz.results154, go_sem]) rfl (unpackMPost_no HU.out (by first | exact (Below.refl _ _).alloc (Nat.le_refl _) _ | exact ((Below.refl _ _).alloc (Nat.le_refl _) _).drew))
set_option maxHeartbeats 4000000 in
theorem unpackM_c (s : ByteArray) (w : World) (hr : RowAt w) (h : s.size = 128) (hp : hasPre s ⟨#[82, 79, 76, 76, 66, 79, 79, 75]⟩ = true) : Calls Tryz.prog 154 #[.string s] w (UnpackMPost s w) := by
 have q : ((s.size : Int) != 128) = false := by simp; omega
 have HP := Lib.hid fun W => hasPrefix_any s ⟨#[82, 79, 76, 76, 66, 79, 79, 75]⟩ W (by omega) (by rw [h]; decide)
 rw [hp] at HP
 have HA1 := fun W => at_any s 8 8 W (by omega) (by decide) (by decide) (by omega)
 have HA2 := fun W => at_any s 16 4 W (by omega) (by decide) (by decide) (by omega)
 have HA3 := fun W => at_any s 20 4 W (by omega) (by decide) (by decide) (by omega)
 have HA4 := fun W => at_any s 24 4 W (by omega) (by decide) (by decide) (by omega)
 have HA5 := fun W => at_any s 28 4 W (by omega) (by decide) (by decide) (by omega)
 have l2 := numAt_lt s 16 4
 have l3 := numAt_lt s 20 4
 have l4 := numAt_lt s 24 4
 have l5 := numAt_lt s 28 4
 rw [IntWalk.wrap64_in _ ⟨by omega, by omega⟩] at HA2 HA3 HA4 HA5
 have hbk := Bk.new w 40 #[.int .i64 0, .int .i64 0, .int .i64 0, .int .i64 0, .int .i64 0]
 have hb0 : Below w.heap.size w (w.alloc (.cells #[.int .i64 0, .int .i64 0, .int .i64 0, .int .i64 0, .int .i64 0] 40)) := (Below.refl _ _).alloc (Nat.le_refl _) _
 have hrow0 := hr.below hb0
 obtain ⟨tz, htz⟩ : ∃ tz : Int, tz = wrap64 (numAt s 8 8) := ⟨_, rfl⟩
 rw [← htz] at HA1
 have HU := unmB_again htz
 have HPK := fun (W : World) (hW : RowAt W) => packM_any tz (numAt s 16 4) (numAt s 20 4) (numAt s 24 4) (numAt s 28 4) W hW
 have hpk : ∃ (ps : ByteArray) (pe : Int), metaS tz (numAt s 16 4) (numAt s 20 4) (numAt s 24 4) (numAt s 28 4) = ps ∧ metaE tz (numAt s 16 4) (numAt s 20 4) (numAt s 24 4) (numAt s 28 4) = pe := ⟨_, _, rfl, rfl⟩
 obtain ⟨ps, pe, hps, hpe⟩ := hpk
 unfold PackMPost at HPK
 rw [hps, hpe] at HPK HU
 clear hps hpe htz
 generalize numAt s 16 4 = r at *
 generalize numAt s 20 4 = f at *
 generalize numAt s 24 4 = p at *
 generalize numAt s 28 4 = l at *
 have HB1 := Lib.hid (show ∀ W, Calls Tryz.prog 211 #[.string s, .int .i64 8, .int .i64 8] W (TellsI tz W) from HA1)
 have HB2 := Lib.hid (show ∀ W, Calls Tryz.prog 211 #[.string s, .int .i64 16, .int .i64 4] W (TellsI (r : Int) W) from HA2)
 have HB3 := Lib.hid (show ∀ W, Calls Tryz.prog 211 #[.string s, .int .i64 20, .int .i64 4] W (TellsI (f : Int) W) from HA3)
 have HB4 := Lib.hid (show ∀ W, Calls Tryz.prog 211 #[.string s, .int .i64 24, .int .i64 4] W (TellsI (p : Int) W) from HA4)
 have HB5 := Lib.hid (show ∀ W, Calls Tryz.prog 211 #[.string s, .int .i64 28, .int .i64 4] W (TellsI (l : Int) W) from HA5)
 have HK := Lib.hid HPK
 have HBK := Lib.hid hbk
 have HB0 := Lib.hid hb0
 have HRW := Lib.hid hrow0
 have qz : decide (s.size < 32) = false := by simp; omega
 have qz2 : decide ((s.size : Int) < 32) = false := by simp; omega
 clear HA1 HA2 HA3 HA4 HA5 HPK hbk hb0 hrow0 hp hr l2 l3 l4 l5
 rcases HU with ⟨rfl, HUN⟩ | ⟨rfl, qps, HUN⟩ | ⟨rfl, rfl, HPG⟩
 all_goals
   go_enter Tryz.func154, Tryz.ntmps154
   go_wp2_with (first | (go_at_call 210; refine (HP.out _).mono ?_; rintro e w' ⟨rfl, rfl⟩) | fail)
   refine (HB1.out _).mono ?_
   rintro e w1 ⟨rfl, hb1⟩
   have X1 := Lib.hid (HB0.out.trans (hb1.mono HB0.out.size))
   have K1 := Lib.hid (bk_below HBK.out hb1)
   have R1 := Lib.hid (HRW.out.below hb1)
   clear hb1
   go_wp2_with fail
   refine (HB2.out _).mono ?_
   rintro e w2 ⟨rfl, hb2⟩
   have X2 := Lib.hid (X1.out.trans (hb2.mono X1.out.size))
   have K2 := Lib.hid (bk_below K1.out hb2)
   have R2 := Lib.hid (R1.out.below hb2)
   clear hb2
   go_wp2_with fail
   refine (HB3.out _).mono ?_
   rintro e w3 ⟨rfl, hb3⟩
   have X3 := Lib.hid (X2.out.trans (hb3.mono X2.out.size))
   have K3 := Lib.hid (bk_below K2.out hb3)
   have R3 := Lib.hid (R2.out.below hb3)
   clear hb3
   go_wp2_with fail
   refine (HB4.out _).mono ?_
   rintro e w4 ⟨rfl, hb4⟩
   have X4 := Lib.hid (X3.out.trans (hb4.mono X3.out.size))
   have K4 := Lib.hid (bk_below K3.out hb4)
   have R4 := Lib.hid (R3.out.below hb4)
   clear hb4
   go_wp2_with fail
   refine (HB5.out _).mono ?_
   rintro e w5 ⟨rfl, hb5⟩
   have X5 := Lib.hid (X4.out.trans (hb5.mono X4.out.size))
   have K5 := Lib.hid (bk_below K4.out hb5)
   have R5 := Lib.hid (R4.out.below hb5)
   clear hb5
   go_wp2_with fail
   refine (HK.out _ (R5.out.below ((Below.refl _ _).alloc (Nat.le_refl _) _))).mono ?_
   rintro e w6 ⟨rfl, hb6⟩
   have hn5 := Bk.new w5 40 #[.int .i64 tz, .int .i64 (r : Int), .int .i64 (f : Int), .int .i64 (p : Int), .int .i64 (l : Int)]
   have X6 := Lib.hid ((X5.out.alloc X5.out.size (.cells #[.int .i64 tz, .int .i64 (r : Int), .int .i64 (f : Int), .int .i64 (p : Int), .int .i64 (l : Int)] 40)).trans (hb6.mono (by have := X5.out.size; simp; omega)))
   have K6 := Lib.hid (bk_below (K5.out.alloc _) hb6)
   have N6 := Lib.hid (bk_below hn5 hb6)
   clear hb6 hn5
   obtain ⟨c0, c1, c2, c3, c4⟩ := K6.out.five
   have g0 := K6.out.frozen 0
   have g1 := K6.out.frozen 1
   have g2 := K6.out.frozen 2
   have g3 := K6.out.frozen 3
   have g4 := K6.out.frozen 4
   obtain ⟨d0, d1, d2, d3, d4⟩ := N6.out.five
   go_wp2_with fail
   first
     | exact bodyPost_ret (v := .tuple #[.agg #[.int .i64 0, .int .i64 0, .int .i64 0, .int .i64 0, .int .i64 0], .int .i64 4]) (by simp [results, Tryz.results154, go_sem, *]) rfl (unpackMPost_no HUN.out (by repeat (first | exact X6.out | refine Below.setCell ?_ (by simp) _)))
     | exact bodyPost_ret (v := .tuple #[.agg #[.int .i64 tz, .int .i64 (r : Int), .int .i64 (f : Int), .int .i64 (p : Int), .int .i64 (l : Int)], .int .i64 0]) (by simp [results, Tryz.results154, go_sem, *]) rfl (unpackMPost_of HPG.out (by repeat (first | exact X6.out | refine Below.setCell ?_ (by simp) _)))
     | (trace_state; fail)
theorem unpackM_any (s : ByteArray) (w : World) (hr : RowAt w) : Calls Tryz.prog 154 #[.string s] w (UnpackMPost s w) := by
 by_cases h : s.size = 128
 · cases hp : hasPre s ⟨#[82, 79, 76, 76, 66, 79, 79, 75]⟩ with
   | false => exact unpackM_b s w h hp
   | true => exact unpackM_c s w hr h hp
 · exact unpackM_a s w h
def nwI (a b : ByteArray) : Bool := unmB b && (!unmB a || decide (unmT a < unmT b))
def nwS (a b : ByteArray) : ByteArray := if nwI a b then b else a
def nwN (a b : ByteArray) : Int := if nwI a b then 1 else 0
def NewestPost (a b : ByteArray) (w : World) (e : Ending) (w' : World) : Prop :=
 e = .returned (.tuple #[metaV (unmT (nwS a b)) (unmR (nwS a b)) (unmF (nwS a b)) (unmP (nwS a b)) (unmL (nwS a b)), .int .i64 (nwN a b), .int .i64 (unmE (nwS a b))]) ∧ Below w.heap.size w w'
theorem unmE_cases (s : ByteArray) : (unmE s = 0 ∧ unmB s = true) ∨ (unmE s = 4 ∧ unmB s = false) := by
 cases h : unmB s with
 | true => exact .inl ⟨by unfold unmE; rw [h]; rfl, rfl⟩
 | false => exact .inr ⟨by unfold unmE; rw [h]; rfl, rfl⟩
def NwA (a b : ByteArray) (t r f p l : Int) : Prop := ∀ w w', Below w.heap.size w w' → NewestPost a b w (.returned (.tuple #[metaV t r f p l, .int .i64 0, .int .i64 0])) w'
def NwB (a b : ByteArray) (t r f p l : Int) : Prop := ∀ w w', Below w.heap.size w w' → NewestPost a b w (.returned (.tuple #[metaV t r f p l, .int .i64 1, .int .i64 0])) w'
def NwN (a b : ByteArray) : Prop := ∀ w w', Below w.heap.size w w' → NewestPost a b w (.returned (.tuple #[metaV 0 0 0 0 0, .int .i64 0, .int .i64 4])) w'
theorem nwA_of {a b : ByteArray} (h : nwI a b = false) (he : unmE a = 0) : NwA a b (unmT a) (unmR a) (unmF a) (unmP a) (unmL a) := by
 intro w w' hb
 unfold NewestPost nwS nwN
 rw [h]
 simp only [Bool.false_eq_true, if_false]
 rw [he]
 exact ⟨rfl, hb⟩
theorem nwB_of {a b : ByteArray} (h : nwI a b = true) (he : unmE b = 0) : NwB a b (unmT b) (unmR b) (unmF b) (unmP b) (unmL b) := by
 intro w w' hb
 unfold NewestPost nwS nwN
 rw [h]
 simp only [if_true]
 rw [he]
 exact ⟨rfl, hb⟩
theorem nwN_of {a b : ByteArray} (ha : unmB a = false) (hb : unmB b = false) : NwN a b := by
 intro w w' hbl
 have h : nwI a b = false := by unfold nwI; rw [hb]; rfl
 unfold NewestPost nwS nwN
 rw [h]
 simp only [Bool.false_eq_true, if_false]
 obtain ⟨h1, h2, h3, h4, h5, h6⟩ := unm_no ha
 rw [h1, h2, h3, h4, h5, h6]
 exact ⟨rfl, hbl⟩
theorem nw_cases (a b : ByteArray) : (unmE a = 4 ∧ unmE b = 4 ∧ Hid (NwN a b)) ∨ (unmE a = 4 ∧ unmE b = 0 ∧ Hid (NwB a b (unmT b) (unmR b) (unmF b) (unmP b) (unmL b))) ∨ (unmE a = 0 ∧ unmE b = 4 ∧ Hid (NwA a b (unmT a) (unmR a) (unmF a) (unmP a) (unmL a))) ∨
   (unmE a = 0 ∧ unmE b = 0 ∧ unmT a < unmT b ∧ Hid (NwB a b (unmT b) (unmR b) (unmF b) (unmP b) (unmL b))) ∨ (unmE a = 0 ∧ unmE b = 0 ∧ unmT b ≤ unmT a ∧ Hid (NwA a b (unmT a) (unmR a) (unmF a) (unmP a) (unmL a))) := by
 rcases unmE_cases a with ⟨ea, ha⟩ | ⟨ea, ha⟩ <;> rcases unmE_cases b with ⟨eb, hb⟩ | ⟨eb, hb⟩
 · by_cases ht : unmT a < unmT b
   · exact .inr (.inr (.inr (.inl ⟨ea, eb, ht, nwB_of (by unfold nwI; rw [ha, hb]; simp [ht]) eb⟩)))
   · exact .inr (.inr (.inr (.inr ⟨ea, eb, by omega, nwA_of (by unfold nwI; rw [ha, hb]; simp [ht]) ea⟩)))
 · exact .inr (.inr (.inl ⟨ea, eb, nwA_of (by unfold nwI; rw [hb]; rfl) ea⟩))
 · exact .inr (.inl ⟨ea, eb, nwB_of (by unfold nwI; rw [ha, hb]; rfl) eb⟩)
 · exact .inl ⟨ea, eb, nwN_of ha hb⟩
set_option maxHeartbeats 4000000 in
theorem newest_any (a b : ByteArray) (w : World) (hr : RowAt w) : Calls Tryz.prog 153 #[.string a, .string b] w (NewestPost a b w) := by
 have HU1 := fun (W : World) (hW : RowAt W) => unpackM_any a W hW
 have HU2 := fun (W : World) (hW : RowAt W) => unpackM_any b W hW
 unfold UnpackMPost at HU1 HU2
 have hcs := nw_cases a b
 generalize unmT a = t1 at *
 generalize unmR a = r1 at *
 generalize unmF a = f1 at *
 generalize unmP a = p1 at *
 generalize unmL a = l1 at *
 generalize unmE a = e1 at *
 generalize unmT b = t2 at *
 generalize unmR b = r2 at *
 generalize unmF b = f2 at *
 generalize unmP b = p2 at *
 generalize unmL b = l2 at *
 generalize unmE b = e2 at *
 have hbk := Bk.new w 40 #[.int .i64 0, .int .i64 0, .int .i64 0, .int .i64 0, .int .i64 0]
 have hb0 : Below w.heap.size w (w.alloc (.cells #[.int .i64 0, .int .i64 0, .int .i64 0, .int .i64 0, .int .i64 0] 40)) := (Below.refl _ _).alloc (Nat.le_refl _) _
 have HBK := Lib.hid hbk
 have HB0 := Lib.hid hb0
 have HRW := Lib.hid (hr.below hb0)
 have HV1 := Lib.hid HU1
 have HV2 := Lib.hid HU2
 clear HU1 HU2 hbk hb0 hr
 rcases hcs with ⟨rfl, rfl, HN⟩ | ⟨rfl, rfl, HN⟩ | ⟨rfl, rfl, HN⟩ | ⟨rfl, rfl, ht, HN⟩ | ⟨rfl, rfl, ht, HN⟩
 all_goals
   go_enter Tryz.func153, Tryz.ntmps153
   go_wp2_with fail
   refine (HV1.out _ HRW.out).mono ?_
   rintro e w1 ⟨rfl, hb1⟩
   have X1 := Lib.hid (HB0.out.trans (hb1.mono HB0.out.size))
   have K1 := Lib.hid (bk_below HBK.out hb1)
   have R1 := Lib.hid (HRW.out.below hb1)
   clear hb1
   go_wp2_with fail
   refine (HV2.out _ (R1.out.below ((Below.refl _ _).alloc (Nat.le_refl _) _))).mono ?_
   rintro e w2 ⟨rfl, hb2⟩
   have hn1 := Bk.new w1 40 #[.int .i64 t1, .int .i64 r1, .int .i64 f1, .int .i64 p1, .int .i64 l1]
   have X2 := Lib.hid ((X1.out.alloc X1.out.size (.cells #[.int .i64 t1, .int .i64 r1, .int .i64 f1, .int .i64 p1, .int .i64 l1] 40)).trans (hb2.mono (by have := X1.out.size; simp; omega)))
   have K2 := Lib.hid (bk_below (K1.out.alloc _) hb2)
   have N2 := Lib.hid (bk_below hn1 hb2)
   clear hb2 hn1
   have X3 := Lib.hid (X2.out.alloc X2.out.size (.cells #[.int .i64 t2, .int .i64 r2, .int .i64 f2, .int .i64 p2, .int .i64 l2] 40))
   obtain ⟨c0, c1, c2, c3, c4⟩ := K2.out.five
   have g0 := K2.out.frozen 0
   have g1 := K2.out.frozen 1
   have g2 := K2.out.frozen 2
   have g3 := K2.out.frozen 3
   have g4 := K2.out.frozen 4
   obtain ⟨d0, d1, d2, d3, d4⟩ := N2.out.five
   have hk := K2.out.lt
   have hn := N2.out.lt
   go_wp2_with fail
 · exact bodyPost_ret (v := .tuple #[metaV 0 0 0 0 0, .int .i64 0, .int .i64 4]) (by simp [results, Tryz.results153, go_sem, c0, c1, c2, c3, c4, g0, g1, g2, g3, g4, hk, hn, d0, d1, d2, d3, d4]) rfl (HN.out _ _ (by refine Below.alloc ?_ (by have := X2.out.size; simp; omega) _; repeat (first | exact X2.out | refine Below.setCell ?_ (by simp) _)))
 · exact bodyPost_ret (v := .tuple #[metaV t2 r2 f2 p2 l2, .int .i64 1, .int .i64 0]) (by simp [results, Tryz.results153, go_sem, c0, c1, c2, c3, c4, g0, g1, g2, g3, g4, hk, hn, d0, d1, d2, d3, d4]) rfl (HN.out _ _ (by refine Below.alloc ?_ (by have := X2.out.size; simp; omega) _; repeat (first | exact X2.out | refine Below.setCell ?_ (by simp) _)))
 · exact bodyPost_ret (v := .tuple #[metaV t1 r1 f1 p1 l1, .int .i64 0, .int .i64 0]) (by simp [results, Tryz.results153, go_sem, c0, c1, c2, c3, c4, g0, g1, g2, g3, g4, hk, hn, d0, d1, d2, d3, d4]) rfl (HN.out _ _ (by refine Below.alloc ?_ (by have := X2.out.size; simp; omega) _; repeat (first | exact X2.out | refine Below.setCell ?_ (by simp) _)))
 · exact bodyPost_ret (v := .tuple #[metaV t2 r2 f2 p2 l2, .int .i64 1, .int .i64 0]) (by simp [results, Tryz.results153, go_sem, c0, c1, c2, c3, c4, g0, g1, g2, g3, g4, hk, hn, d0, d1, d2, d3, d4]) rfl (HN.out _ _ (by refine Below.alloc ?_ (by have := X2.out.size; simp; omega) _; repeat (first | exact X2.out | refine Below.setCell ?_ (by simp) _)))
 · exact bodyPost_ret (v := .tuple #[metaV t1 r1 f1 p1 l1, .int .i64 0, .int .i64 0]) (by simp [results, Tryz.results153, go_sem, c0, c1, c2, c3, c4, g0, g1, g2, g3, g4, hk, hn, d0, d1, d2, d3, d4]) rfl (HN.out _ _ (by refine Below.alloc ?_ (by have := X2.out.size; simp; omega) _; repeat (first | exact X2.out | refine Below.setCell ?_ (by simp) _)))
structure MetaV where
 t : Int
 r : Int
 f : Int
 p : Int
 l : Int
def MetaV.cells (m : MetaV) : Array Value := #[.int .i64 m.t, .int .i64 m.r, .int .i64 m.f, .int .i64 m.p, .int .i64 m.l]
def MetaV.ok (m : MetaV) : Bool := rightM m.t m.r m.f m.p m.l
def MetaV.bytes (m : MetaV) : ByteArray := metaS m.t m.r m.f m.p m.l
def MetaV.zero : MetaV := ⟨0, 0, 0, 0, 0⟩
def unmV (s : ByteArray) : MetaV := ⟨unmT s, unmR s, unmF s, unmP s, unmL s⟩
theorem unmV_of {m : MetaV} (h : m.ok = true) : unmB m.bytes = true ∧ unmV m.bytes = m := by
 have hm : IsMeta m.bytes m.t m.r m.f m.p m.l := ⟨h, rfl⟩
 obtain ⟨h1, h2, h3, h4, h5, h6⟩ := unm_of hm
 refine ⟨unmB_of hm, ?_⟩
 unfold unmV
 rw [h1, h2, h3, h4, h5]
theorem MetaV.size {m : MetaV} (h : m.ok = true) : m.bytes.size = 128 := by
 unfold MetaV.bytes
 rw [metaS_right h, size_list, metaL_len]
structure PgS where
 m : MetaV
 o : MetaV
 both : Bool
 sealed : Option MetaV
 log : List Int
abbrev pgCells (g : Nat) (m o : MetaV) (both : Bool) (sl lg : Value) : Array Value :=
 #[.pointer (some ⟨g, 0, none⟩), .int .i64 m.t, .int .i64 m.r, .int .i64 m.f, .int .i64 m.p, .int .i64 m.l, .int .i64 o.t, .int .i64 o.r, .int .i64 o.f, .int .i64 o.p, .int .i64 o.l, .bool both, sl, lg]
def SealAt (w : World) (T : List Nat) (sl : Value) : Option MetaV → Prop
 | none => sl = .pointer none
 | some s => ∃ b, b ∈ T ∧ sl = .pointer (some ⟨b, 0, none⟩) ∧ Bk w b 40 s.cells
structure PgAt (w : World) (q : Nat) (T : List Nat) (g : Nat) (P : PgS) (sl lg : Value) : Prop where
 cells : Bk w q 188 (pgCells g P.m P.o P.both sl lg)
 sld : SealAt w T sl P.sealed
 log : w.ownsRow 0 3 1 lg P.log.length (P.log.map (Value.int .i64))
 inT : q ∈ T ∧ ∀ b, lg.ownBlock = some b → b ∈ T
 old : ∀ b ∈ T, b < w.heap.size
def Pg (w : World) (q : Nat) (T : List Nat) (g : Nat) (P : PgS) : Prop := ∃ sl lg, PgAt w q T g P sl lg
theorem PgAt.off {w w' : World} {q : Nat} {T U : List Nat} {g : Nat} {P : PgS} {sl lg : Value} (h : PgAt w q T g P sl lg) (ho : Off U w w') (hU : ∀ b ∈ T, b ∉ U) : PgAt w' q T g P sl lg := by
 refine ⟨ho.bk h.cells (hU _ h.inT.1), ?_, ho.own h.log (fun b hb => hU _ (h.inT.2 b hb)), h.inT, fun b hb => Nat.lt_of_lt_of_le (h.old b hb) ho.size⟩
 have hs := h.sld
 unfold SealAt at *
 split at hs
 · exact hs
 · obtain ⟨b, h1, h2, h3⟩ := hs
   exact ⟨b, h1, h2, ho.bk h3 (hU _ h1)⟩
theorem Pg.off {w w' : World} {q : Nat} {T U : List Nat} {g : Nat} {P : PgS} (h : Pg w q T g P) (ho : Off U w w') (hU : ∀ b ∈ T, b ∉ U) : Pg w' q T g P := by
 obtain ⟨sl, lg, h⟩ := h
 exact ⟨sl, lg, h.off ho hU⟩
theorem Pg.old {w : World} {q : Nat} {T : List Nat} {g : Nat} {P : PgS} (h : Pg w q T g P) : ∀ b ∈ T, b < w.heap.size := by
 obtain ⟨sl, lg, h⟩ := h
 exact h.old
theorem Pg.below {w w' : World} {q : Nat} {T : List Nat} {g : Nat} {P : PgS} (h : Pg w q T g P) (hb : Below w.heap.size w w') : Pg w' q T g P := h.off (Off.of_below hb []) (fun _ _ => List.not_mem_nil)
theorem RowAt.off {S : List Nat} {w w' : World} (h : RowAt w) (ho : Off S w w') (hS : 0 ∉ S) : RowAt w' := fun k hk => (ho.cell (p := ⟨0, k, none⟩) h.lt hS).trans (h k hk)
theorem RowAt.fresh {S S' : List Nat} {w : World} (h : RowAt w) (hf : Fresh w S S') (hS : 0 ∉ S) : 0 ∉ S' := fun hx => by
 rcases hf _ hx with h1 | h1
 · exact hS h1
 · have := h.lt; omega
def formatD (D : DevS) (limit : Int) : DevS × Int :=
 if 4 ≤ limit ∧ limit ≤ 512 ∧ 4 * limit ≤ (D.sec.length : Int) then
   if (D.write 0 (metaS 0 0 0 1 limit)).2 ≠ 0 then D.write 0 (metaS 0 0 0 1 limit)
   else if ((D.write 0 (metaS 0 0 0 1 limit)).1.write 1 (metaS 1 0 0 1 limit)).2 ≠ 0 then (D.write 0 (metaS 0 0 0 1 limit)).1.write 1 (metaS 1 0 0 1 limit)
   else ((D.write 0 (metaS 0 0 0 1 limit)).1.write 1 (metaS 1 0 0 1 limit)).1.sync
 else (D, 1)
theorem format_nil (limit : Int) (w : World) : Calls Tryz.prog 98 #[.pointer none, .int .i64 limit] w fun e w' => e = .returned (.int .i64 1) ∧ w = w' := by
 have hq : decide (limit < 4) = true ∨ (decide (limit < 4) = false ∧ decide (512 < limit) = true) ∨ (decide (limit < 4) = false ∧ decide (512 < limit) = false ∧ 4 ≤ limit ∧ limit ≤ 512 ∧ decide ((0 : Int) < 4 * limit) = true) := by simp; omega
 rcases hq with q0 | ⟨q0, q1⟩ | ⟨q0, q1, q2, q3, q4⟩
 all_goals
   go_enter Tryz.func98, Tryz.ntmps98
   go_wp2_with (first
     | (go_at_call 151; refine (dsize_nil _).mono ?_; rintro e w2 ⟨rfl, rfl⟩)
     | fail)
   go_ret
   exact ⟨rfl, rfl⟩
theorem stepped_steps (D : DevS) : D.stepped.steps ≤ D.steps + 1 := by
 unfold DevS.stepped
 split
 · omega
 · exact Int.le_refl _
theorem write_steps (D : DevS) (i : Int) (s : ByteArray) : (D.write i s).1.steps ≤ D.steps + 1 := by
 unfold DevS.write
 have := stepped_steps D
 split
 · split
   · exact this
   · exact this
 · show D.steps ≤ _; omega
theorem dwrite_from {g : Nat} {S : List Nat} {D : DevS} {w : World} (hd : Dev w g S D) (i : Int) (s : ByteArray) (D' : DevS) (r : Int) (hb : D.steps ≤ 1000000000) (hsz : s.size ≤ maxLen) (h : D.write i s = (D', r)) :
   Calls Tryz.prog 118 #[ptr g, .int .i64 i, .string s] w (DevPost g S D' (.int .i64 r) w) := by
 have h1 := dwrite_any hd i s hb hsz
 rw [h] at h1
 exact h1
theorem dsync_from {g : Nat} {S : List Nat} {D : DevS} {w : World} (hd : Dev w g S D) (D' : DevS) (r : Int) (hb : D.steps ≤ 1000000000) (h : D.sync = (D', r)) :
   Calls Tryz.prog 116 #[ptr g] w (DevPost g S D' (.int .i64 r) w) := by
 have h1 := dsync_any hd hb
 rw [h] at h1
 exact h1
theorem meta_size (t r f p l : Int) : (metaS t r f p l).size ≤ maxLen := by
 cases h : rightM t r f p l with
 | true => rw [metaS_right h, size_list, metaL_len]; decide
 | false => rw [metaS_wrong h]; decide
def SaysS (s : ByteArray) (w : World) (e : Ending) (w' : World) : Prop := ∃ x : Int, e = .returned (.tuple #[.string s, .int .i64 x]) ∧ Below w.heap.size w w'
theorem packM_s (t r f p l : Int) (s : ByteArray) (hs : s = metaS t r f p l) (w : World) (hrow : RowAt w) : Calls Tryz.prog 117 #[.agg #[.int .i64 t, .int .i64 r, .int .i64 f, .int .i64 p, .int .i64 l]] w (SaysS s w) := by
 refine (packM_any t r f p l w hrow).mono ?_
 rintro e w' ⟨rfl, hb⟩
 exact ⟨_, by rw [hs], hb⟩
theorem dev_then {g : Nat} {S S1 : List Nat} {D' : DevS} {w w1 w2 : World} (h1 : Off S w w1) (f1 : Fresh w S S1) (h : ∃ S', Dev w2 g S' D' ∧ Off S1 w1 w2 ∧ Fresh w1 S1 S') : ∃ S', Dev w2 g S' D' ∧ Off S w w2 ∧ Fresh w S S' := by
 obtain ⟨S', a, b, c⟩ := h
 exact ⟨S', a, h1.fresh b f1, f1.trans c h1.size⟩
set_option maxHeartbeats 4000000 in
theorem format_ok {g : Nat} {S : List Nat} {D : DevS} {w : World} (hd : Dev w g S D) (limit : Int) (hr : RowAt w) (hS : 0 ∉ S) (hb : D.steps ≤ 999999990) (h : 4 ≤ limit ∧ limit ≤ 512 ∧ 4 * limit ≤ (D.sec.length : Int)) :
   Calls Tryz.prog 98 #[ptr g, .int .i64 limit] w (DevPost g S (formatD D limit).1 (.int .i64 (formatD D limit).2) w) := by
 have HD := Lib.hid hd
 have HR := Lib.hid hr
 have HS := Lib.hid hS
 have q0 : decide (limit < 4) = false := by simp; omega
 have q1 : decide ((512 : Int) < limit) = false := by simp; omega
 have q2 : decide ((D.sec.length : Int) < 4 * limit) = false := by simp; omega
 have q3 : 4 ≤ limit := h.1
 have q4 : limit ≤ 512 := h.2.1
 obtain ⟨s0, hs0⟩ : ∃ s0, s0 = metaS 0 0 0 1 limit := ⟨_, rfl⟩
 obtain ⟨s1, hs1⟩ : ∃ s1, s1 = metaS 1 0 0 1 limit := ⟨_, rfl⟩
 have HP0 : Hid (∀ W, RowAt W → Calls Tryz.prog 117 #[.agg #[.int .i64 0, .int .i64 0, .int .i64 0, .int .i64 1, .int .i64 limit]] W (SaysS s0 W)) := fun W hW => packM_s 0 0 0 1 limit s0 hs0 W hW
 have HP1 : Hid (∀ W, RowAt W → Calls Tryz.prog 117 #[.agg #[.int .i64 1, .int .i64 0, .int .i64 0, .int .i64 1, .int .i64 limit]] W (SaysS s1 W)) := fun W hW => packM_s 1 0 0 1 limit s1 hs1 W hW
 have z0 : s0.size ≤ maxLen := by rw [hs0]; exact meta_size _ _ _ _ _
 have z1 : s1.size ≤ maxLen := by rw [hs1]; exact meta_size _ _ _ _ _
 have Z0 := Lib.hid z0
 have Z1 := Lib.hid z1
 obtain ⟨D1, r1, h1⟩ : ∃ D1 r1, D.write 0 s0 = (D1, r1) := ⟨_, _, rfl⟩
 obtain ⟨D2, r2, h2⟩ : ∃ D2 r2, D1.write 1 s1 = (D2, r2) := ⟨_, _, rfl⟩
 have b1 : D1.steps ≤ D.steps + 1 := by have := write_steps D 0 s0; rw [h1] at this; exact this
 have b2 : D2.steps ≤ D1.steps + 1 := by have := write_steps D1 1 s1; rw [h2] at this; exact this
 have HB : Hid (D.steps ≤ 1000000000 ∧ D1.steps ≤ 1000000000 ∧ D2.steps ≤ 1000000000) := ⟨by omega, by omega, by omega⟩
 have HF : Hid (formatD D limit = if r1 ≠ 0 then (D1, r1) else if r2 ≠ 0 then (D2, r2) else D2.sync) := show _ = _ by
   unfold formatD
   rw [if_pos h, ← hs0, ← hs1, h1]
   simp only
   rw [h2]
 have H1 := Lib.hid h1
 have H2 := Lib.hid h2
 have hc : ((r1 != 0) = true ∧ Hid (formatD D limit = (D1, r1))) ∨ ((r1 != 0) = false ∧ (r2 != 0) = true ∧ Hid (formatD D limit = (D2, r2))) ∨ ((r1 != 0) = false ∧ (r2 != 0) = false ∧ Hid (formatD D limit = D2.sync)) := by
   have hf := HF.out
   by_cases e1 : r1 = 0
   · by_cases e2 : r2 = 0
     · refine .inr (.inr ⟨by simp [e1], by simp [e2], show _ = _ by rw [hf, if_neg (by simp [e1]), if_neg (by simp [e2])]⟩)
     · refine .inr (.inl ⟨by simp [e1], by simp [e2], show _ = _ by rw [hf, if_neg (by simp [e1]), if_pos e2]⟩)
   · exact .inl ⟨by simp [e1], show _ = _ by rw [hf, if_pos e1]⟩
 clear hd hr hS hb h hs0 hs1 z0 z1 h1 h2 b1 b2
 rcases hc with ⟨c1, HF2⟩ | ⟨c1, c2, HF2⟩ | ⟨c1, c2, HF2⟩
 all_goals
   go_enter Tryz.func98, Tryz.ntmps98
   go_wp2_with (first
     | (go_at_call 151; refine (dsize_any HD.out).mono ?_; rintro e w2 ⟨rfl, rfl⟩)
     | fail)
   refine wp_loop_rounds 3 ?_
   rw [rounds_succ]
   go_wp2_with fail
   (go_at_call 117)
   refine (HP0.out _ HR.out).mono ?_
   rintro e w1 ⟨x0, rfl, hb1⟩
   have HB1 := Lib.hid hb1
   have HD1 := Lib.hid (HD.out.below hb1)
   have HR1 := Lib.hid (HR.out.below hb1)
   clear hb1
   go_wp2_with fail
   (go_at_call 118)
   refine (dwrite_from HD1.out 0 s0 D1 r1 HB.out.1 Z0.out H1.out).mono ?_
   rintro e w2 ⟨rfl, hp2⟩
   have HQ2 := Lib.hid (dev_then (Off.of_below HB1.out S) (Fresh.refl _ _) hp2)
   have HR2 : Hid (RowAt w2) := by
     obtain ⟨S', p1, p2, p3⟩ := hp2
     exact HR1.out.off p2 HS.out
   clear hp2
   go_wp2_with fail
 · go_ret
   exact devPost_of (by rw [HF2.out]) (by rw [HF2.out]; rfl) HQ2.out
 · obtain ⟨S2, g1, g2, g3⟩ := HQ2.out
   have HD2 := Lib.hid g1
   have HO2 := Lib.hid g2
   have HF3 := Lib.hid g3
   have HRS : Hid (0 ∉ S2) := HR.out.fresh g3 HS.out
   clear g1 g2 g3
   rw [rounds_succ]
   go_wp2_with fail
   (go_at_call 117)
   refine (HP1.out _ HR2.out).mono ?_
   rintro e w3 ⟨x1, rfl, hb3⟩
   have HB3 := Lib.hid hb3
   have HD3 := Lib.hid (HD2.out.below hb3)
   have HR3 := Lib.hid (HR2.out.below hb3)
   clear hb3
   go_wp2_with fail
   (go_at_call 118)
   refine (dwrite_from HD3.out 1 s1 D2 r2 HB.out.2.1 Z1.out H2.out).mono ?_
   rintro e w4 ⟨rfl, hp4⟩
   have HQ4 := Lib.hid (dev_then (Off.of_below HB3.out S2) (Fresh.refl _ _) hp4)
   clear hp4
   go_wp2_with fail
   go_ret
   exact devPost_of (by rw [HF2.out]) (by rw [HF2.out]; rfl) (dev_then HO2.out HF3.out HQ4.out)
 · obtain ⟨S2, g1, g2, g3⟩ := HQ2.out
   have HD2 := Lib.hid g1
   have HO2 := Lib.hid g2
   have HF3 := Lib.hid g3
   have HRS : Hid (0 ∉ S2) := HR.out.fresh g3 HS.out
   clear g1 g2 g3
   rw [rounds_succ]
   go_wp2_with fail
   (go_at_call 117)
   refine (HP1.out _ HR2.out).mono ?_
   rintro e w3 ⟨x1, rfl, hb3⟩
   have HB3 := Lib.hid hb3
   have HD3 := Lib.hid (HD2.out.below hb3)
   have HR3 := Lib.hid (HR2.out.below hb3)
   clear hb3
   go_wp2_with fail
   (go_at_call 118)
   refine (dwrite_from HD3.out 1 s1 D2 r2 HB.out.2.1 Z1.out H2.out).mono ?_
   rintro e w4 ⟨rfl, hp4⟩
   have HQ4 := Lib.hid (dev_then (Off.of_below HB3.out S2) (Fresh.refl _ _) hp4)
   clear hp4
   go_wp2_with fail
   rw [rounds_succ]
   go_wp2_with fail
   obtain ⟨S4, g1, g2, g3⟩ := HQ4.out
   have HD4 := Lib.hid g1
   have HO4 := Lib.hid (HO2.out.fresh g2 HF3.out)
   have HF4 := Lib.hid (HF3.out.trans g3 HO2.out.size)
   clear g1 g2 g3
   (go_at_call 116)
   refine (dsync_any HD4.out HB.out.2.2).mono ?_
   rintro e w5 ⟨rfl, hp5⟩
   have HQ5 := Lib.hid (dev_then HO4.out HF4.out hp5)
   clear hp5
   go_wp2_with fail
   go_ret
   exact devPost_of (by rw [HF2.out]) (by rw [HF2.out]; rfl) HQ5.out
end Go.Proofs.YtjbcbnemdhbhbaaGreatDoor

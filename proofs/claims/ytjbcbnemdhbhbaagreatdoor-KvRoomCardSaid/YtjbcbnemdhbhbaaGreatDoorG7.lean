import Derived.Test.YtjbcbnemdhbhbaaGreatDoorG4
namespace Go.Proofs.YtjbcbnemdhbhbaaGreatDoor
open Go.RowKit
open Go.PlainAid
set_option maxRecDepth 100000
def rightM (t r f p l : Int) : Bool := decide (0 ≤ t) && decide (t ≤ 1099511627776) && decide (2 ≤ l) && decide (l ≤ 512) && decide (1 ≤ p) && decide (p ≤ l) && decide (0 ≤ r) && decide (r < p) && decide (0 ≤ f) && decide (f < p)
theorem rightM_yes {t r f p l : Int} (h : rightM t r f p l = true) : 0 ≤ t ∧ t ≤ 1099511627776 ∧ 2 ≤ l ∧ l ≤ 512 ∧ 1 ≤ p ∧ p ≤ l ∧ 0 ≤ r ∧ r < p ∧ 0 ≤ f ∧ f < p := by
 unfold rightM at h
 simp only [Bool.and_eq_true, decide_eq_true_eq] at h
 omega
theorem rightM_of {t r f p l : Int} (h : 0 ≤ t ∧ t ≤ 1099511627776 ∧ 2 ≤ l ∧ l ≤ 512 ∧ 1 ≤ p ∧ p ≤ l ∧ 0 ≤ r ∧ r < p ∧ 0 ≤ f ∧ f < p) : rightM t r f p l = true := by
 unfold rightM
 simp only [Bool.and_eq_true, decide_eq_true_eq]
 omega
def metaHead (t r f p l : Nat) : List UInt8 := [82, 79, 76, 76, 66, 79, 79, 75] ++ lays [(t, 8), (r, 4), (f, 4), (p, 4), (l, 4)]
def metaL (t r f p l : Nat) : List UInt8 := metaHead t r f p l ++ Be.low (Crc.sum (metaHead t r f p l)) 4 ++ List.replicate 92 0
def metaS (t r f p l : Int) : ByteArray := if rightM t r f p l then ⟨(metaL t.toNat r.toNat f.toNat p.toNat l.toNat).toArray⟩ else ⟨#[]⟩
def metaE (t r f p l : Int) : Int := if rightM t r f p l then 0 else 4
theorem metaHead_len (t r f p l : Nat) : (metaHead t r f p l).length = 32 := by
 unfold metaHead lays
 simp [Be.low_len]
theorem metaL_len (t r f p l : Nat) : (metaL t r f p l).length = 128 := by
 unfold metaL
 rw [List.length_append, List.length_append, metaHead_len, Be.low_len, List.length_replicate]
theorem metaL_parts (t r f p l : Nat) : metaL t r f p l = [82, 79, 76, 76, 66, 79, 79, 75] ++ (Be.low t 8 ++ (Be.low r 4 ++ (Be.low f 4 ++ (Be.low p 4 ++ (Be.low l 4 ++ (Be.low (Crc.sum (metaHead t r f p l)) 4 ++ List.replicate 92 0)))))) := by
 conv => lhs; unfold metaL
 rw [show metaHead t r f p l ++ Be.low (Crc.sum (metaHead t r f p l)) 4 ++ List.replicate 92 0 = metaHead t r f p l ++ (Be.low (Crc.sum (metaHead t r f p l)) 4 ++ List.replicate 92 0) by rw [List.append_assoc]]
 generalize Be.low (Crc.sum (metaHead t r f p l)) 4 ++ List.replicate 92 0 = z
 unfold metaHead lays
 simp [List.append_assoc]
theorem metaL_t (t r f p l : Nat) (h : t ≤ 1099511627776) : Be.num (((metaL t r f p l).drop 8).take 8) = t := by
 rw [metaL_parts, cut_mid _ _ _ 8 8 rfl (Be.low_len _ _), Be.num_low_fit _ _ (by omega)]
theorem metaL_r (t r f p l : Nat) (h : r < 512) : Be.num (((metaL t r f p l).drop 16).take 4) = r := by
 rw [metaL_parts, ← List.append_assoc, cut_mid _ _ _ 16 4 (by simp [Be.low_len]) (Be.low_len _ _), Be.num_low_fit _ _ (by omega)]
theorem metaL_f (t r f p l : Nat) (h : f < 512) : Be.num (((metaL t r f p l).drop 20).take 4) = f := by
 rw [metaL_parts, ← List.append_assoc, ← List.append_assoc, cut_mid _ _ _ 20 4 (by simp [Be.low_len]) (Be.low_len _ _), Be.num_low_fit _ _ (by omega)]
theorem metaL_p (t r f p l : Nat) (h : p ≤ 512) : Be.num (((metaL t r f p l).drop 24).take 4) = p := by
 rw [metaL_parts, ← List.append_assoc, ← List.append_assoc, ← List.append_assoc, cut_mid _ _ _ 24 4 (by simp [Be.low_len]) (Be.low_len _ _), Be.num_low_fit _ _ (by omega)]
theorem metaL_l (t r f p l : Nat) (h : l ≤ 512) : Be.num (((metaL t r f p l).drop 28).take 4) = l := by
 rw [metaL_parts, ← List.append_assoc, ← List.append_assoc, ← List.append_assoc, ← List.append_assoc, cut_mid _ _ _ 28 4 (by simp [Be.low_len]) (Be.low_len _ _), Be.num_low_fit _ _ (by omega)]
def IsMeta (s : ByteArray) (t r f p l : Int) : Prop := rightM t r f p l = true ∧ metaS t r f p l = s
theorem metaS_right {t r f p l : Int} (h : rightM t r f p l = true) : metaS t r f p l = ⟨(metaL t.toNat r.toNat f.toNat p.toNat l.toNat).toArray⟩ := by unfold metaS; rw [h]; rfl
theorem metaE_right {t r f p l : Int} (h : rightM t r f p l = true) : metaE t r f p l = 0 := by unfold metaE; rw [h]; rfl
theorem metaS_wrong {t r f p l : Int} (h : rightM t r f p l = false) : metaS t r f p l = ⟨#[]⟩ := by unfold metaS; rw [h]; rfl
theorem metaE_wrong {t r f p l : Int} (h : rightM t r f p l = false) : metaE t r f p l = 4 := by unfold metaE; rw [h]; rfl
theorem IsMeta.says {s : ByteArray} {t r f p l : Int} (h : IsMeta s t r f p l) :
   s.size = 128 ∧ (∃ q, s.data.toList = 82 :: 79 :: 76 :: 76 :: 66 :: 79 :: 79 :: 75 :: q) ∧ t = numAt s 8 8 ∧ r = numAt s 16 4 ∧ f = numAt s 20 4 ∧ p = numAt s 24 4 ∧ l = numAt s 28 4 := by
 obtain ⟨hr, hs⟩ := h
 obtain ⟨h1, h2, h3, h4, h5, h6, h7, h8, h9, h10⟩ := rightM_yes hr
 rw [metaS_right hr] at hs
 obtain ⟨tn, rfl⟩ := Int.eq_ofNat_of_zero_le (show 0 ≤ t by omega)
 obtain ⟨rn, rfl⟩ := Int.eq_ofNat_of_zero_le (show 0 ≤ r by omega)
 obtain ⟨fn, rfl⟩ := Int.eq_ofNat_of_zero_le (show 0 ≤ f by omega)
 obtain ⟨pn, rfl⟩ := Int.eq_ofNat_of_zero_le (show 0 ≤ p by omega)
 obtain ⟨ln, rfl⟩ := Int.eq_ofNat_of_zero_le (show 0 ≤ l by omega)
 simp only [Int.toNat_natCast] at hs
 have hl : s.data.toList = metaL tn rn fn pn ln := by rw [← hs]
 have e1 : numAt s 8 8 = tn := by unfold numAt; rw [hl]; exact metaL_t _ _ _ _ _ (by omega)
 have e2 : numAt s 16 4 = rn := by unfold numAt; rw [hl]; exact metaL_r _ _ _ _ _ (by omega)
 have e3 : numAt s 20 4 = fn := by unfold numAt; rw [hl]; exact metaL_f _ _ _ _ _ (by omega)
 have e4 : numAt s 24 4 = pn := by unfold numAt; rw [hl]; exact metaL_p _ _ _ _ _ (by omega)
 have e5 : numAt s 28 4 = ln := by unfold numAt; rw [hl]; exact metaL_l _ _ _ _ _ (by omega)
 refine ⟨?_, ⟨_, by rw [hl, metaL_parts]; rfl⟩, by rw [e1], by rw [e2], by rw [e3], by rw [e4], by rw [e5]⟩
 rw [← len_size, hl, metaL_len]
def unmB (s : ByteArray) : Bool := rightM (numAt s 8 8) (numAt s 16 4) (numAt s 20 4) (numAt s 24 4) (numAt s 28 4) && decide (metaS (numAt s 8 8) (numAt s 16 4) (numAt s 20 4) (numAt s 24 4) (numAt s 28 4) = s)
def unmT (s : ByteArray) : Int := if unmB s then (numAt s 8 8 : Int) else 0
def unmR (s : ByteArray) : Int := if unmB s then (numAt s 16 4 : Int) else 0
def unmF (s : ByteArray) : Int := if unmB s then (numAt s 20 4 : Int) else 0
def unmP (s : ByteArray) : Int := if unmB s then (numAt s 24 4 : Int) else 0
def unmL (s : ByteArray) : Int := if unmB s then (numAt s 28 4 : Int) else 0
def unmE (s : ByteArray) : Int := if unmB s then 0 else 4
theorem unmB_yes {s : ByteArray} (h : unmB s = true) : IsMeta s (numAt s 8 8) (numAt s 16 4) (numAt s 20 4) (numAt s 24 4) (numAt s 28 4) := by
 unfold unmB at h
 simp only [Bool.and_eq_true, decide_eq_true_eq] at h
 exact h
theorem unmB_of {s : ByteArray} {t r f p l : Int} (h : IsMeta s t r f p l) : unmB s = true := by
 obtain ⟨h1, h2, h3, h4, h5, h6, h7⟩ := h.says
 have h8 := h
 rw [h3, h4, h5, h6, h7] at h8
 unfold unmB
 rw [h8.1, h8.2]
 simp
theorem unm_of {s : ByteArray} {t r f p l : Int} (h : IsMeta s t r f p l) : unmT s = t ∧ unmR s = r ∧ unmF s = f ∧ unmP s = p ∧ unmL s = l ∧ unmE s = 0 := by
 have hu := unmB_of h
 obtain ⟨h1, h2, h3, h4, h5, h6, h7⟩ := h.says
 unfold unmT unmR unmF unmP unmL unmE
 rw [hu]
 exact ⟨h3.symm, h4.symm, h5.symm, h6.symm, h7.symm, rfl⟩
theorem unm_no {s : ByteArray} (h : unmB s = false) : unmT s = 0 ∧ unmR s = 0 ∧ unmF s = 0 ∧ unmP s = 0 ∧ unmL s = 0 ∧ unmE s = 4 := by
 unfold unmT unmR unmF unmP unmL unmE
 rw [h]
 exact ⟨rfl, rfl, rfl, rfl, rfl, rfl⟩
set_option linter.unusedVariables false
def hasPre (s p : ByteArray) : Bool := (s.extract 0 p.size).toList == p.toList
def TellsB (q : Bool) (w : World) (e : Ending) (w' : World) : Prop := e = .returned (.bool q) ∧ w = w'
theorem lhasPrefix (s p : ByteArray) (w : World) (hs : s.size ≤ 1000000) (hp : p.size ≤ s.size) :
   Calls Tryz.prog 246 #[.string s, .string p] w (TellsB (hasPre s p) w) := by
 have q : decide (p.size ≤ s.size) = true := by simpa using hp
 have q2 : decide ((p.size : Int) ≤ (s.size : Int)) = true := by simp; omega
 have HE := Lib.hid (show hasPre s p = ((s.extract 0 p.size).toList == p.toList) from rfl)
 go_enter Tryz.func246, Tryz.ntmps246
 go_wp2_with fail
 go_ret
 exact ⟨by rw [HE.out]; rfl, rfl⟩
theorem hasPrefix_any (s p : ByteArray) (w : World) (hs : s.size ≤ 1000000) (hp : p.size ≤ s.size) :
   Calls Tryz.prog 210 #[.string s, .string p] w (TellsB (hasPre s p) w) := by
 have H := Lib.hid (lhasPrefix s p w hs hp)
 go_enter Tryz.func210, Tryz.ntmps210
 go_wp2_with (go_at_call 246; refine H.out.mono ?_; rintro e w' ⟨rfl, rfl⟩)
 go_ret
 exact ⟨rfl, rfl⟩
def UnpackPost (s : ByteArray) (w : World) (e : Ending) (w' : World) : Prop :=
 e = .returned (.tuple #[.agg #[.int .i64 (unpK s), .int .i64 (unpN s), .int .i64 (unpT s), .string (unpY s)], .int .i64 (unpE s)]) ∧ Below w.heap.size w w'
theorem unpackPost_no {s : ByteArray} {w w' : World} (h : unpB s = false) (hb : Below w.heap.size w w') : UnpackPost s w (.returned (.tuple #[.agg #[.int .i64 0, .int .i64 0, .int .i64 0, .string ⟨#[]⟩], .int .i64 4])) w' := by
 obtain ⟨h1, h2, h3, h4, h5⟩ := unp_no h
 unfold UnpackPost
 rw [h1, h2, h3, h4, h5]
 exact ⟨rfl, hb⟩
theorem unpackPost_of {s : ByteArray} {k n t : Int} {b : ByteArray} {w w' : World} (h : IsPage s k n t b) (hb : Below w.heap.size w w') : UnpackPost s w (.returned (.tuple #[.agg #[.int .i64 k, .int .i64 n, .int .i64 t, .string b], .int .i64 0])) w' := by
 obtain ⟨h1, h2, h3, h4, h5⟩ := unp_of h
 unfold UnpackPost
 rw [h1, h2, h3, h4, h5]
 exact ⟨rfl, hb⟩
theorem unpB_size {s : ByteArray} (h : s.size ≠ 512) : unpB s = false := by
 cases hu : unpB s with
 | false => rfl
 | true => exact absurd (unpB_yes hu).says.1 h
theorem unpB_pre {s : ByteArray} (h : hasPre s ⟨#[82, 66]⟩ = false) : unpB s = false := by
 cases hu : unpB s with
 | false => rfl
 | true =>
   obtain ⟨_, ⟨r, hr⟩, _⟩ := (unpB_yes hu).says
   have : hasPre s ⟨#[82, 66]⟩ = true := by
     unfold hasPre
     rw [ByteArray.toList_eq, ByteArray.toList_eq, extract_list, hr]
     rfl
   rw [this] at h
   cases h
theorem unpB_again {s : ByteArray} {tz : Int} (ht : tz = wrap64 (numAt s 10 8)) {b : ByteArray} (hb : numAt s 4 2 ≤ 488 ∧ b = s.extract 24 (24 + numAt s 4 2) ∨ 488 < numAt s 4 2 ∧ b = ⟨#[]⟩) :
   (packE (numAt s 2 1) (numAt s 6 4) tz b = 0 ∧ packS (numAt s 2 1) (numAt s 6 4) tz b = s ∧ IsPage s (numAt s 2 1) (numAt s 6 4) tz b) ∨
   (packE (numAt s 2 1) (numAt s 6 4) tz b = 0 ∧ packS (numAt s 2 1) (numAt s 6 4) tz b ≠ s ∧ unpB s = false) ∨ (packE (numAt s 2 1) (numAt s 6 4) tz b = 4 ∧ unpB s = false) := by
 have key : unpB s = true → IsPage s (numAt s 2 1) (numAt s 6 4) tz b := by
   intro hu
   have hp := unpB_yes hu
   have h1 := (rightB_yes hp.1)
   have h2 := hp.says
   have e1 : tz = numAt s 10 8 := by rw [ht]; exact IntWalk.wrap64_in _ ⟨by omega, by omega⟩
   rcases hb with ⟨h3, h4⟩ | ⟨h3, h4⟩
   · rw [h4, e1]; exact hp
   · have := h2.2.2.2.1; omega
 cases hr : rightB (numAt s 2 1) (numAt s 6 4) tz b with
 | false =>
   refine .inr (.inr ⟨packE_wrong hr, ?_⟩)
   cases hu : unpB s with
   | false => rfl
   | true => have := (key hu).1; rw [this] at hr; cases hr
 | true =>
   by_cases he : packS (numAt s 2 1) (numAt s 6 4) tz b = s
   · exact .inl ⟨packE_right hr, he, hr, he⟩
   · refine .inr (.inl ⟨packE_right hr, he, ?_⟩)
     cases hu : unpB s with
     | false => rfl
     | true => exact absurd (key hu).2 he
theorem numAt_lt (s : ByteArray) (p k : Nat) : numAt s p k < 256 ^ k := by
 unfold numAt
 refine Nat.lt_of_lt_of_le (Be.num_lt _) (Nat.pow_le_pow_right (by decide) ?_)
 rw [List.length_take]
 omega
theorem toList_ne {a b : ByteArray} (h : a ≠ b) : (a.toList == b.toList) = false := by
 rw [ByteArray.toList_eq, ByteArray.toList_eq, beq_eq_false_iff_ne]
 exact fun e => h (str_eq e)
set_option maxHeartbeats 4000000 in
theorem unpack_a (s : ByteArray) (w : World) (h : s.size ≠ 512) : Calls Tryz.prog 212 #[.string s] w (UnpackPost s w) := by
 have q : ((s.size : Int) != 512) = true := by simp; omega
 have HU := Lib.hid (unpB_size h)
 clear h
 go_enter Tryz.func212, Tryz.ntmps212
 go_wp2_with fail
 exact bodyPost_ret (v := .tuple #[.agg #[.int .i64 0, .int .i64 0, .int .i64 0, .string ⟨#[]⟩], .int .i64 4]) (by simp [results, Tryz.results212, go_sem]) rfl (unpackPost_no HU.out (by first | exact (Below.refl _ _).alloc (Nat.le_refl _) _ | exact ((Below.refl _ _).alloc (Nat.le_refl _) _).drew))
set_option maxHeartbeats 4000000 in
theorem unpack_b (s : ByteArray) (w : World) (h : s.size = 512) (hp : hasPre s ⟨#[82, 66]⟩ = false) : Calls Tryz.prog 212 #[.string s] w (UnpackPost s w) := by
 have q : ((s.size : Int) != 512) = false := by simp; omega
 have HU := Lib.hid (unpB_pre hp)
 have HP := Lib.hid fun W => hasPrefix_any s ⟨#[82, 66]⟩ W (by omega) (by rw [h]; decide)
 rw [hp] at HP
 clear h hp
 go_enter Tryz.func212, Tryz.ntmps212
 go_wp2_with (first | (go_at_call 210; refine (HP.out _).mono ?_; rintro e w' ⟨rfl, rfl⟩) | fail)
 exact bodyPost_ret (v := .tuple #[.agg #[.int .i64 0, .int .i64 0, .int .i64 0, .string ⟨#[]⟩], .int .i64 4]) (by simp [results, Tryz.results212, go_sem]) rfl (unpackPost_no HU.out (by first | exact (Below.refl _ _).alloc (Nat.le_refl _) _ | exact ((Below.refl _ _).alloc (Nat.le_refl _) _).drew))
theorem RowAt.far {w : World} (h : RowAt w) {p : Addr} (hp : 0 ≠ p.block) (u : Value) : RowAt (w.setCell p u) := fun k hk => (World.cell?_of_block (Below.heap_setCell w p u _ hp)).trans (h k hk)
set_option maxHeartbeats 4000000 in
theorem unpack_c (s : ByteArray) (w : World) (hr : RowAt w) (h : s.size = 512) (hp : hasPre s ⟨#[82, 66]⟩ = true) : Calls Tryz.prog 212 #[.string s] w (UnpackPost s w) := by
 have q : ((s.size : Int) != 512) = false := by simp; omega
 have HP := Lib.hid fun W => hasPrefix_any s ⟨#[82, 66]⟩ W (by omega) (by rw [h]; decide)
 rw [hp] at HP
 have HA1 := fun W => at_any s 2 1 W (by omega) (by decide) (by decide) (by omega)
 have HA2 := fun W => at_any s 6 4 W (by omega) (by decide) (by decide) (by omega)
 have HA3 := fun W => at_any s 10 8 W (by omega) (by decide) (by decide) (by omega)
 have HA4 := fun W => at_any s 4 2 W (by omega) (by decide) (by decide) (by omega)
 have l1 := numAt_lt s 2 1
 have l2 := numAt_lt s 6 4
 have l4 := numAt_lt s 4 2
 rw [IntWalk.wrap64_in _ ⟨by omega, by omega⟩] at HA1 HA2 HA4
 have hbk := Bk.new w 126 #[.int .i64 0, .int .i64 0, .int .i64 0, .string ⟨#[]⟩]
 have hb0 : Below w.heap.size w (w.alloc (.cells #[.int .i64 0, .int .i64 0, .int .i64 0, .string ⟨#[]⟩] 126)) := (Below.refl _ _).alloc (Nat.le_refl _) _
 have hrow0 := hr.below hb0
 obtain ⟨b, hbd⟩ : ∃ b : ByteArray, numAt s 4 2 ≤ 488 ∧ b = s.extract 24 (24 + numAt s 4 2) ∨ 488 < numAt s 4 2 ∧ b = ⟨#[]⟩ := by
   by_cases hl : numAt s 4 2 ≤ 488
   · exact ⟨_, .inl ⟨hl, rfl⟩⟩
   · exact ⟨_, .inr ⟨by omega, rfl⟩⟩
 obtain ⟨tz, htz⟩ : ∃ tz : Int, tz = wrap64 (numAt s 10 8) := ⟨_, rfl⟩
 rw [← htz] at HA3
 have HU := unpB_again htz hbd
 have HPK := fun (W : World) (hW : RowAt W) => pack_any (numAt s 2 1) (numAt s 6 4) tz b W hW
 have hpk : ∃ (ps : ByteArray) (pe : Int), packS (numAt s 2 1) (numAt s 6 4) tz b = ps ∧ packE (numAt s 2 1) (numAt s 6 4) tz b = pe := ⟨_, _, rfl, rfl⟩
 obtain ⟨ps, pe, hps, hpe⟩ := hpk
 unfold PackPost at HPK
 rw [hps, hpe] at HPK HU
 clear hps hpe htz
 generalize numAt s 2 1 = k at *
 generalize numAt s 6 4 = n at *
 generalize numAt s 4 2 = l at *
 have HB1 := Lib.hid (show ∀ W, Calls Tryz.prog 211 #[.string s, .int .i64 2, .int .i64 1] W (TellsI (k : Int) W) from HA1)
 have HB2 := Lib.hid (show ∀ W, Calls Tryz.prog 211 #[.string s, .int .i64 6, .int .i64 4] W (TellsI (n : Int) W) from HA2)
 have HB3 := Lib.hid (show ∀ W, Calls Tryz.prog 211 #[.string s, .int .i64 10, .int .i64 8] W (TellsI tz W) from HA3)
 have HB4 := Lib.hid (show ∀ W, Calls Tryz.prog 211 #[.string s, .int .i64 4, .int .i64 2] W (TellsI (l : Int) W) from HA4)
 have HK := Lib.hid HPK
 have HUU := Lib.hid HU
 have HBK := Lib.hid hbk
 have HB0 := Lib.hid hb0
 have HRW := Lib.hid hrow0
 clear HA1 HA2 HA3 HA4 HPK hbk hb0 hrow0 hp HU l1 l2 l4 hr
 have hl0 : (0 : Int) ≤ 24 + (l : Int) := by omega
 have hlq : (decide ((l : Int) ≤ 488) = true ∧ l ≤ 488 ∧ b = s.extract 24 (24 + l)) ∨ (decide ((l : Int) ≤ 488) = false ∧ 488 < l ∧ b = ⟨#[]⟩) := by
   rcases hbd with ⟨h1, h2⟩ | ⟨h1, h2⟩
   · exact .inl ⟨by simp; omega, h1, h2⟩
   · exact .inr ⟨by simp; omega, h1, h2⟩
 clear hbd
 have hcs : (pe = 4 ∧ Hid (unpB s = false)) ∨ (pe = 0 ∧ (ps.toList == s.toList) = false ∧ Hid (unpB s = false)) ∨ (pe = 0 ∧ ps = s ∧ Hid (IsPage s (k : Int) (n : Int) tz b)) := by
   rcases HUU.out with ⟨h1, h2, h3⟩ | ⟨h1, h2, h3⟩ | ⟨h1, h2⟩
   · exact .inr (.inr ⟨h1, h2, h3⟩)
   · exact .inr (.inl ⟨h1, toList_ne h2, h3⟩)
   · exact .inl ⟨h1, h2⟩
 clear HUU
 rcases hcs with ⟨rfl, HUN⟩ | ⟨rfl, qps, HUN⟩ | ⟨rfl, rfl, HPG⟩
 all_goals rcases hlq with ⟨ql, hl, rfl⟩ | ⟨ql, hl, rfl⟩
 all_goals
   go_enter Tryz.func212, Tryz.ntmps212
   go_wp2_with (first | (go_at_call 210; refine (HP.out _).mono ?_; rintro e w' ⟨rfl, rfl⟩) | fail)
   refine (HB1.out _).mono ?_
   rintro e w1 ⟨rfl, hb1⟩
   have X1 := Lib.hid (HB0.out.trans (hb1.mono HB0.out.size))
   have K1 := Lib.hid (bk_below HBK.out hb1)
   have R1 := Lib.hid (HRW.out.below hb1)
   clear hb1
   go_wp2_with fail
   refine (HB2.out _).mono ?_
   rintro e w2 ⟨rfl, hb2⟩
   have X2 := Lib.hid (X1.out.trans (hb2.mono X1.out.size))
   have K2 := Lib.hid (bk_below K1.out hb2)
   have R2 := Lib.hid (R1.out.below hb2)
   clear hb2
   go_wp2_with fail
   refine (HB3.out _).mono ?_
   rintro e w3 ⟨rfl, hb3⟩
   have X3 := Lib.hid (X2.out.trans (hb3.mono X2.out.size))
   have K3 := Lib.hid (bk_below K2.out hb3)
   have R3 := Lib.hid (R2.out.below hb3)
   clear hb3
   go_wp2_with fail
   refine (HB4.out _).mono ?_
   rintro e w4 ⟨rfl, hb4⟩
   have hn3 := Bk.new w3 126 #[.int .i64 (k : Int), .int .i64 (n : Int), .int .i64 tz, .string ⟨#[]⟩]
   have X4 := Lib.hid ((X3.out.alloc X3.out.size (.cells #[.int .i64 (k : Int), .int .i64 (n : Int), .int .i64 tz, .string ⟨#[]⟩] 126)).trans (hb4.mono (by have := X3.out.size; simp; omega)))
   have K4 := Lib.hid (bk_below (K3.out.alloc _) hb4)
   have N4 := Lib.hid (bk_below hn3 hb4)
   have R4 := Lib.hid ((R3.out.below ((Below.refl _ _).alloc (Nat.le_refl _) _)).below hb4)
   obtain ⟨d0, d1, d2, d3⟩ := N4.out.four
   have f3 := N4.out.frozen 3
   clear hb4 hn3
   have hw3 := X3.out.size
   have hne : w.heap.size < w3.heap.size := K3.out.lt
   have hrl : 0 < w3.heap.size := R3.out.lt
   go_wp2_with fail
   first
     | (refine (HK.out _ (R4.out.far (by simp; omega) _)).mono ?_
        rintro e w6 ⟨rfl, hb6⟩
        have X6 := Lib.hid ((X4.out.setCell (p := ⟨w3.heap.size, 3, none⟩) (by simp; omega) _).trans (hb6.mono (by have := X4.out.size; simp [World.setCell]; omega)))
        have K6 := Lib.hid (bk_below (K4.out.far (p := ⟨w3.heap.size, 3, none⟩) (by simp; omega) _) hb6)
        have N6 := Lib.hid (bk_below (N4.out.put 3 _) hb6))
     | (refine (HK.out _ R4.out).mono ?_
        rintro e w6 ⟨rfl, hb6⟩
        have X6 := Lib.hid (X4.out.trans (hb6.mono X4.out.size))
        have K6 := Lib.hid (bk_below K4.out hb6)
        have N6 := Lib.hid (bk_below N4.out hb6))
     | fail
   clear hb6 d0 d1 d2 d3 f3
   obtain ⟨c0, c1, c2, c3⟩ := K6.out.four
   have g0 := K6.out.frozen 0
   have g1 := K6.out.frozen 1
   have g2 := K6.out.frozen 2
   have g3 := K6.out.frozen 3
   obtain ⟨d0, d1, d2, d3⟩ := N6.out.four
   go_wp2_with fail
   first
     | exact bodyPost_ret (v := .tuple #[.agg #[.int .i64 0, .int .i64 0, .int .i64 0, .string ⟨#[]⟩], .int .i64 4]) (by simp [results, Tryz.results212, go_sem, *]) rfl (unpackPost_no HUN.out (by repeat (first | exact X6.out | refine Below.setCell ?_ (by simp) _)))
     | exact bodyPost_ret (v := .tuple #[.agg #[.int .i64 (k : Int), .int .i64 (n : Int), .int .i64 tz, .string _], .int .i64 0]) (by simp [results, Tryz.results212, go_sem, *]) rfl (unpackPost_of HPG.out (by repeat (first | exact X6.out | refine Below.setCell ?_ (by simp) _)))
     | (trace_state; fail)
theorem unpack_any (s : ByteArray) (w : World) (hr : RowAt w) : Calls Tryz.prog 212 #[.string s] w (UnpackPost s w) := by
 by_cases h : s.size = 512
 · cases hp : hasPre s ⟨#[82, 66]⟩ with
   | false => exact unpack_b s w h hp
   | true => exact unpack_c s w hr h hp
 · exact unpack_a s w h
abbrev metaV (t r f p l : Int) : Value := .agg #[.int .i64 t, .int .i64 r, .int .i64 f, .int .i64 p, .int .i64 l]
theorem within_of (n lo hi : Int) (q : Bool) (w : World) (HE : Hid ((decide (lo ≤ n) && decide (n ≤ hi)) = q)) : Calls Tryz.prog 230 #[.int .i64 n, .int .i64 lo, .int .i64 hi] w (TellsB q w) := by
 have hcs : (q = true ∧ lo ≤ n ∧ n ≤ hi) ∨ (q = false ∧ lo ≤ n ∧ decide (n ≤ hi) = false) ∨ (q = false ∧ n < lo) := by
   have := HE.out
   cases q
   · simp at this
     by_cases h1 : lo ≤ n
     · exact .inr (.inl ⟨rfl, h1, by simp; exact this h1⟩)
     · exact .inr (.inr ⟨rfl, by omega⟩)
   · simp at this
     exact .inl ⟨rfl, this.1, this.2⟩
 clear HE
 rcases hcs with ⟨rfl, h1, h2⟩ | ⟨rfl, h1, h2⟩ | ⟨rfl, h1⟩
 all_goals
   go_enter Tryz.func230, Tryz.ntmps230
   go_wp2_with fail
   go_ret
   exact ⟨rfl, rfl⟩
theorem within_any (n lo hi : Int) (w : World) : Calls Tryz.prog 230 #[.int .i64 n, .int .i64 lo, .int .i64 hi] w (TellsB (decide (lo ≤ n) && decide (n ≤ hi)) w) := within_of n lo hi _ w (show _ = _ from rfl)
theorem rightM_five (t r f p l : Int) : rightM t r f p l = ((decide (0 ≤ t) && decide (t ≤ 1099511627776)) && (decide (2 ≤ l) && decide (l ≤ 512)) && (decide (1 ≤ p) && decide (p ≤ l)) && (decide (0 ≤ r) && decide (r ≤ p - 1)) && (decide (0 ≤ f) && decide (f ≤ p - 1))) := by
 unfold rightM
 rw [Bool.eq_iff_iff]
 simp only [Bool.and_eq_true, decide_eq_true_eq]
 omega
set_option maxHeartbeats 8000000 in
theorem prightM_any (t r f p l : Int) (w : World) : Calls Tryz.prog 174 #[metaV t r f p l] w (TellsQ (rightM t r f p l) w) := by
 have h5 := rightM_five t r f p l
 have H1 := fun W => within_any t 0 1099511627776 W
 have H2 := fun W => within_any l 2 512 W
 have H3 := fun W => within_any p 1 l W
 have H4 := fun W => within_any r 0 (p - 1) W
 have H5 := fun W => within_any f 0 (p - 1) W
 have hp : (decide (1 ≤ p) && decide (p ≤ l)) = true → (decide (2 ≤ l) && decide (l ≤ 512)) = true → 1 ≤ p ∧ p ≤ 512 := by
   simp only [Bool.and_eq_true, decide_eq_true_eq]
   omega
 generalize rightM t r f p l = q at *
 generalize (decide (0 ≤ t) && decide (t ≤ 1099511627776)) = x1 at *
 generalize (decide (2 ≤ l) && decide (l ≤ 512)) = x2 at *
 generalize (decide (1 ≤ p) && decide (p ≤ l)) = x3 at *
 generalize (decide (0 ≤ r) && decide (r ≤ p - 1)) = x4 at *
 generalize (decide (0 ≤ f) && decide (f ≤ p - 1)) = x5 at *
 have HQ := Lib.hid h5
 clear h5
 have hb0 : Below w.heap.size w (w.alloc (.cells #[.int .i64 t, .int .i64 r, .int .i64 f, .int .i64 p, .int .i64 l] 40)) := (Below.refl _ _).alloc (Nat.le_refl _) _
 have HB := Lib.hid hb0
 have G1 := Lib.hid H1
 have G2 := Lib.hid H2
 have G3 := Lib.hid H3
 have G4 := Lib.hid H4
 have G5 := Lib.hid H5
 have hcs : x1 = false ∨ (x1 = true ∧ x2 = false) ∨ (x1 = true ∧ x2 = true ∧ x3 = false) ∨ (x1 = true ∧ x2 = true ∧ x3 = true ∧ x4 = false) ∨ (x1 = true ∧ x2 = true ∧ x3 = true ∧ x4 = true) := by
   cases x1 <;> cases x2 <;> cases x3 <;> cases x4 <;> simp
 clear hb0 H1 H2 H3 H4 H5
 rcases hcs with rfl | ⟨rfl, rfl⟩ | ⟨rfl, rfl, rfl⟩ | ⟨rfl, rfl, rfl, rfl⟩ | ⟨rfl, rfl, rfl, rfl⟩
 all_goals
   have HP : Hid (1 ≤ p ∧ p ≤ 512) ∨ True := by first | exact .inl (hp rfl rfl) | exact .inr trivial
   first | (obtain ⟨hp1, hp2⟩ := hp rfl rfl) | skip
   clear HP hp
   go_enter Tryz.func174, Tryz.ntmps174
   go_wp2_with (first
     | (go_at_call 230; (with_reducible refine (G1.out _).mono ?_); rintro e w' ⟨rfl, rfl⟩)
     | (go_at_call 230; (with_reducible refine (G2.out _).mono ?_); rintro e w' ⟨rfl, rfl⟩)
     | (go_at_call 230; (with_reducible refine (G3.out _).mono ?_); rintro e w' ⟨rfl, rfl⟩)
     | (go_at_call 230; (with_reducible refine (G4.out _).mono ?_); rintro e w' ⟨rfl, rfl⟩)
     | (go_at_call 230; (with_reducible refine (G5.out _).mono ?_); rintro e w' ⟨rfl, rfl⟩)
     | fail)
   go_ret
   exact tellsQ_of (by rw [HQ.out]; first | rfl | (cases x2 <;> cases x3 <;> cases x4 <;> cases x5 <;> rfl) | (cases x3 <;> cases x4 <;> cases x5 <;> rfl) | (cases x4 <;> cases x5 <;> rfl) | (cases x5 <;> rfl)) HB.out
def PackMPost (t r f p l : Int) (w : World) (e : Ending) (w' : World) : Prop := e = .returned (.tuple #[.string (metaS t r f p l), .int .i64 (metaE t r f p l)]) ∧ Below w.heap.size w w'
theorem fitsM (t r f p l : Nat) (ht : t ≤ 1099511627776) (hr : r < 512) (hf : f < 512) (hp : p ≤ 512) (hl : l ≤ 512) : Fits [(t, 8), (r, 4), (f, 4), (p, 4), (l, 4)] := by
 intro x hx
 simp only [List.mem_cons, List.not_mem_nil, or_false] at hx
 rcases hx with rfl | rfl | rfl | rfl | rfl <;> refine ⟨by simp, by simp, ?_, ?_⟩ <;> simp <;> omega
theorem meta_parts {t r f p l : Nat} (hr : rightM t r f p l = true) {hd ls : ByteArray} (h1 : hd = ⟨(metaHead t r f p l).toArray⟩) (h2 : ls = ⟨(Be.low (Crc.sum (metaHead t r f p l)) 4).toArray⟩) :
   metaS t r f p l = hd ++ ls ++ noughts 92 ∧ metaE t r f p l = 0 := by
 refine ⟨?_, metaE_right hr⟩
 subst h1 h2
 rw [metaS_right hr]
 apply str_eq
 rw [append_list, append_list, noughts_list]
 rfl
set_option maxHeartbeats 4000000 in
theorem packM_any (t r f p l : Int) (w : World) (hrow : RowAt w) : Calls Tryz.prog 117 #[metaV t r f p l] w (PackMPost t r f p l w) := by
 have HR := fun W : World => prightM_any t r f p l W
 have hb0 : Below w.heap.size w (w.alloc (.cells #[.int .i64 t, .int .i64 r, .int .i64 f, .int .i64 p, .int .i64 l] 40)) := (Below.refl _ _).alloc (Nat.le_refl _) _
 have hbk := Bk.new w 40 #[.int .i64 t, .int .i64 r, .int .i64 f, .int .i64 p, .int .i64 l]
 have hrow0 := hrow.below hb0
 cases hq : rightM t r f p l with
 | false =>
   rw [hq] at HR
   have H1 := Lib.hid HR
   have HS := Lib.hid (show metaS t r f p l = ⟨#[]⟩ ∧ metaE t r f p l = 4 from ⟨metaS_wrong hq, metaE_wrong hq⟩)
   clear hq HR
   go_enter Tryz.func117, Tryz.ntmps117
   go_wp2_with (first
     | (go_at_call 174; refine (H1.out _).mono ?_; rintro e w2 ⟨rfl, hb2⟩)
     | fail)
   go_ret2
   exact ⟨by rw [HS.out.1, HS.out.2]; rfl, hb0.trans (hb2.mono hb0.size)⟩
 | true =>
   rw [hq] at HR
   have H1 := Lib.hid HR
   obtain ⟨h1, h2, h3, h4, h5, h6, h7, h8, h9, h10⟩ := rightM_yes hq
   obtain ⟨tn, rfl⟩ := Int.eq_ofNat_of_zero_le (show 0 ≤ t by omega)
   obtain ⟨rn, rfl⟩ := Int.eq_ofNat_of_zero_le (show 0 ≤ r by omega)
   obtain ⟨fn, rfl⟩ := Int.eq_ofNat_of_zero_le (show 0 ≤ f by omega)
   obtain ⟨pn, rfl⟩ := Int.eq_ofNat_of_zero_le (show 0 ≤ p by omega)
   obtain ⟨ln, rfl⟩ := Int.eq_ofNat_of_zero_le (show 0 ≤ l by omega)
   have hfit := fitsM tn rn fn pn ln (by omega) (by omega) (by omega) (by omega) (by omega)
   have HL1 := fun W : World => lay_any ⟨#[82, 79, 76, 76, 66, 79, 79, 75]⟩ W.heap.size 5 [(tn, 8), (rn, 4), (fn, 4), (pn, 4), (ln, 4)] _ rfl (by simp) (by decide) (numsAt5 W tn rn fn pn ln 8 4 4 4 4 268) hfit
   have hhd : (⟨#[82, 79, 76, 76, 66, 79, 79, 75]⟩ ++ ⟨(lays [(tn, 8), (rn, 4), (fn, 4), (pn, 4), (ln, 4)]).toArray⟩ : ByteArray) = ⟨(metaHead tn rn fn pn ln).toArray⟩ := by
     apply str_eq
     rw [append_list]
     rfl
   rw [hhd] at HL1
   have hhs : (⟨(metaHead tn rn fn pn ln).toArray⟩ : ByteArray).size = 32 := by rw [size_list, metaHead_len]
   have HSm := fun (W : World) (hW : RowAt W) => sum_any ⟨(metaHead tn rn fn pn ln).toArray⟩ W (by rw [hhs]; unfold maxLen; omega) hW
   rw [show (⟨(metaHead tn rn fn pn ln).toArray⟩ : ByteArray).data.toList = metaHead tn rn fn pn ln from rfl] at HSm
   have hsl := sum_lt (metaHead tn rn fn pn ln)
   have HPT := fun hd ls => @meta_parts tn rn fn pn ln hq hd ls
   have HP2 := HPT _ _ rfl rfl
   clear HPT
   generalize Crc.sum (metaHead tn rn fn pn ln) = sm at *
   generalize (⟨(metaHead tn rn fn pn ln).toArray⟩ : ByteArray) = hd at *
   have HL2 := fun W : World => lay_any hd W.heap.size 1 [(sm, 4)] _ rfl (by simp) (by omega) (numsAt1 W sm 4 268) (fits_one4 sm hsl)
   have hl1 : lays [(sm, 4)] = Be.low sm 4 := by unfold lays; simp
   rw [hl1] at HL2
   have hls : (⟨(Be.low sm 4).toArray⟩ : ByteArray).size = 4 := by rw [size_list, Be.low_len]
   generalize (⟨(Be.low sm 4).toArray⟩ : ByteArray) = ls at *
   have hlc : (hd ++ ls : ByteArray).size = 36 := by rw [ByteArray.size_append]; omega
   have HF := fun W : World => filled_any (hd ++ ls) 128 W (by omega) (by decide)
   rw [hlc] at HF
   generalize hd ++ ls = hl at *
   have HF2 := Lib.hid (show ∀ W, Calls Tryz.prog 176 #[.string hl, .int .i64 128] W (TellsS (hl ++ noughts 92) W) from HF)
   have HL1a := Lib.hid (show ∀ W : World, Calls Tryz.prog 175 #[.string ⟨#[82, 79, 76, 76, 66, 79, 79, 75]⟩, .slice (some ⟨W.heap.size, 0, none⟩) 5 5] (W.alloc (.cells #[.int .i64 (tn : Int), .int .i64 8, .int .i64 (rn : Int), .int .i64 4, .int .i64 (fn : Int), .int .i64 4, .int .i64 (pn : Int), .int .i64 4, .int .i64 (ln : Int), .int .i64 4] 268))
     (TellsS hd (W.alloc (.cells #[.int .i64 (tn : Int), .int .i64 8, .int .i64 (rn : Int), .int .i64 4, .int .i64 (fn : Int), .int .i64 4, .int .i64 (pn : Int), .int .i64 4, .int .i64 (ln : Int), .int .i64 4] 268))) from HL1)
   have HL22 := Lib.hid (show ∀ W : World, Calls Tryz.prog 175 #[.string hd, .slice (some ⟨W.heap.size, 0, none⟩) 1 1] (W.alloc (.cells #[.int .i64 (sm : Int), .int .i64 4] 268))
     (TellsS hl (W.alloc (.cells #[.int .i64 (sm : Int), .int .i64 4] 268))) from HL2)
   have HSM := Lib.hid HSm
   have HBK := Lib.hid hbk
   have HRW := Lib.hid hrow0
   have HB0 := Lib.hid hb0
   have HS2 := Lib.hid HP2
   clear HL1 HL2 HSm HF hhd hl1 hbk hrow0 hb0 hrow hq HR HP2 hfit hlc hls hhs
   go_enter Tryz.func117, Tryz.ntmps117
   go_wp2_with fail
   refine (H1.out _).mono ?_
   rintro e w2 ⟨rfl, hb2⟩
   obtain ⟨z0, z1, z2, z3, z4⟩ := (bk_below HBK.out hb2).five
   have X2 := Lib.hid (HB0.out.trans (hb2.mono HB0.out.size))
   have R2 := Lib.hid (HRW.out.below hb2)
   clear hb2
   go_wp2_with fail
   (with_reducible refine (HL1a.out _).mono ?_)
   rintro e w3 ⟨rfl, hb3⟩
   have hb33 : Below w2.heap.size w2 w3 := ((Below.refl w2.heap.size w2).alloc (Nat.le_refl _) _).trans (hb3.mono (by simp))
   have X3 := Lib.hid (X2.out.trans (hb33.mono X2.out.size))
   have R3 := Lib.hid (R2.out.below hb33)
   clear hb3 hb33 z0 z1 z2 z3 z4
   go_wp2_with (first
     | (go_at_call 177; refine (HSM.out _ R3.out).mono ?_; rintro e w' ⟨rfl, rfl⟩)
     | (go_at_call 175; (with_reducible refine (HL22.out _).mono ?_); rintro e w5 ⟨rfl, hb5⟩; have X5 := Lib.hid ((X3.out.alloc X3.out.size (.cells #[.int .i64 (sm : Int), .int .i64 4] 268)).trans (hb5.mono (by have := X3.out.size; simp; omega))); clear hb5)
     | (go_at_call 176; refine (HF2.out _).mono ?_; rintro e w6 ⟨rfl, hb6⟩)
     | fail)
   go_ret2
   exact ⟨by rw [HS2.out.1, HS2.out.2]; rfl, X5.out.trans (hb6.mono X5.out.size)⟩
end Go.Proofs.YtjbcbnemdhbhbaaGreatDoor

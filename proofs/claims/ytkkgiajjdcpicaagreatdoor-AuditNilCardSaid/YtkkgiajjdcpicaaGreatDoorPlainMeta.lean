/- Plain Lean: metas and their bytes. -/
import Derived.Test.YtkkgiajjdcpicaaGreatDoorPlainPage
namespace Go.Proofs.YtkkgiajjdcpicaaGreatDoor
open Go.RowKit
open Go.PlainAid
set_option maxRecDepth 100000

/-- may a meta be? (its transaction, root, free, pages, limit) -/
def rightM (t r f p l : Int) : Bool := decide (0 ≤ t) && decide (t ≤ 1099511627776) && decide (2 ≤ l) && decide (l ≤ 512) && decide (1 ≤ p) && decide (p ≤ l) && decide (0 ≤ r) && decide (r < p) && decide (0 ≤ f) && decide (f < p)
theorem rightM_yes {t r f p l : Int} (h : rightM t r f p l = true) : 0 ≤ t ∧ t ≤ 1099511627776 ∧ 2 ≤ l ∧ l ≤ 512 ∧ 1 ≤ p ∧ p ≤ l ∧ 0 ≤ r ∧ r < p ∧ 0 ≤ f ∧ f < p := by
  unfold rightM at h
  simp only [Bool.and_eq_true, decide_eq_true_eq] at h
  omega
theorem rightM_of {t r f p l : Int} (h : 0 ≤ t ∧ t ≤ 1099511627776 ∧ 2 ≤ l ∧ l ≤ 512 ∧ 1 ≤ p ∧ p ≤ l ∧ 0 ≤ r ∧ r < p ∧ 0 ≤ f ∧ f < p) : rightM t r f p l = true := by
  unfold rightM
  simp only [Bool.and_eq_true, decide_eq_true_eq]
  omega
theorem rightM_not {t r f p l : Int} (h : rightM t r f p l = false) : ¬ (0 ≤ t ∧ t ≤ 1099511627776 ∧ 2 ≤ l ∧ l ≤ 512 ∧ 1 ≤ p ∧ p ≤ l ∧ 0 ≤ r ∧ r < p ∧ 0 ≤ f ∧ f < p) := by
  intro h2
  rw [rightM_of h2] at h
  cases h

/-- A meta's bytes: ahead of the sum, all. -/
def metaHead (t r f p l : Nat) : List UInt8 := [82, 79, 76, 76, 66, 79, 79, 75] ++ lays [(t, 8), (r, 4), (f, 4), (p, 4), (l, 4)]
def metaL (t r f p l : Nat) : List UInt8 := metaHead t r f p l ++ Be.low (Crc.sum (metaHead t r f p l)) 4 ++ List.replicate 92 0
def metaS (t r f p l : Int) : ByteArray := if rightM t r f p l then ⟨(metaL t.toNat r.toNat f.toNat p.toNat l.toNat).toArray⟩ else ⟨#[]⟩
def metaE (t r f p l : Int) : Int := if rightM t r f p l then 0 else 4

theorem metaHead_len (t r f p l : Nat) : (metaHead t r f p l).length = 32 := by
  unfold metaHead lays
  simp [Be.low_len]
theorem metaL_len (t r f p l : Nat) : (metaL t r f p l).length = 128 := by
  unfold metaL
  rw [List.length_append, List.length_append, metaHead_len, Be.low_len, List.length_replicate]
theorem metaL_parts (t r f p l : Nat) : metaL t r f p l = [82, 79, 76, 76, 66, 79, 79, 75] ++ (Be.low t 8 ++ (Be.low r 4 ++ (Be.low f 4 ++ (Be.low p 4 ++ (Be.low l 4 ++ (Be.low (Crc.sum (metaHead t r f p l)) 4 ++ List.replicate 92 0)))))) := by
  conv => lhs; unfold metaL
  rw [show metaHead t r f p l ++ Be.low (Crc.sum (metaHead t r f p l)) 4 ++ List.replicate 92 0 = metaHead t r f p l ++ (Be.low (Crc.sum (metaHead t r f p l)) 4 ++ List.replicate 92 0) by rw [List.append_assoc]]
  generalize Be.low (Crc.sum (metaHead t r f p l)) 4 ++ List.replicate 92 0 = z
  unfold metaHead lays
  simp [List.append_assoc]
theorem metaL_t (t r f p l : Nat) (h : t ≤ 1099511627776) : Be.num (((metaL t r f p l).drop 8).take 8) = t := by
  rw [metaL_parts, cut_mid _ _ _ 8 8 rfl (Be.low_len _ _), Be.num_low_fit _ _ (by omega)]
theorem metaL_r (t r f p l : Nat) (h : r < 512) : Be.num (((metaL t r f p l).drop 16).take 4) = r := by
  rw [metaL_parts, ← List.append_assoc, cut_mid _ _ _ 16 4 (by simp [Be.low_len]) (Be.low_len _ _), Be.num_low_fit _ _ (by omega)]
theorem metaL_f (t r f p l : Nat) (h : f < 512) : Be.num (((metaL t r f p l).drop 20).take 4) = f := by
  rw [metaL_parts, ← List.append_assoc, ← List.append_assoc, cut_mid _ _ _ 20 4 (by simp [Be.low_len]) (Be.low_len _ _), Be.num_low_fit _ _ (by omega)]
theorem metaL_p (t r f p l : Nat) (h : p ≤ 512) : Be.num (((metaL t r f p l).drop 24).take 4) = p := by
  rw [metaL_parts, ← List.append_assoc, ← List.append_assoc, ← List.append_assoc, cut_mid _ _ _ 24 4 (by simp [Be.low_len]) (Be.low_len _ _), Be.num_low_fit _ _ (by omega)]
theorem metaL_l (t r f p l : Nat) (h : l ≤ 512) : Be.num (((metaL t r f p l).drop 28).take 4) = l := by
  rw [metaL_parts, ← List.append_assoc, ← List.append_assoc, ← List.append_assoc, ← List.append_assoc, cut_mid _ _ _ 28 4 (by simp [Be.low_len]) (Be.low_len _ _), Be.num_low_fit _ _ (by omega)]

def IsMeta (s : ByteArray) (t r f p l : Int) : Prop := rightM t r f p l = true ∧ metaS t r f p l = s
theorem metaS_right {t r f p l : Int} (h : rightM t r f p l = true) : metaS t r f p l = ⟨(metaL t.toNat r.toNat f.toNat p.toNat l.toNat).toArray⟩ := by unfold metaS; rw [h]; rfl
theorem metaE_right {t r f p l : Int} (h : rightM t r f p l = true) : metaE t r f p l = 0 := by unfold metaE; rw [h]; rfl
theorem metaS_wrong {t r f p l : Int} (h : rightM t r f p l = false) : metaS t r f p l = ⟨#[]⟩ := by unfold metaS; rw [h]; rfl
theorem metaE_wrong {t r f p l : Int} (h : rightM t r f p l = false) : metaE t r f p l = 4 := by unfold metaE; rw [h]; rfl

theorem IsMeta.says {s : ByteArray} {t r f p l : Int} (h : IsMeta s t r f p l) :
    s.size = 128 ∧ (∃ q, s.data.toList = 82 :: 79 :: 76 :: 76 :: 66 :: 79 :: 79 :: 75 :: q) ∧ t = numAt s 8 8 ∧ r = numAt s 16 4 ∧ f = numAt s 20 4 ∧ p = numAt s 24 4 ∧ l = numAt s 28 4 := by
  obtain ⟨hr, hs⟩ := h
  obtain ⟨h1, h2, h3, h4, h5, h6, h7, h8, h9, h10⟩ := rightM_yes hr
  rw [metaS_right hr] at hs
  obtain ⟨tn, rfl⟩ := Int.eq_ofNat_of_zero_le (show 0 ≤ t by omega)
  obtain ⟨rn, rfl⟩ := Int.eq_ofNat_of_zero_le (show 0 ≤ r by omega)
  obtain ⟨fn, rfl⟩ := Int.eq_ofNat_of_zero_le (show 0 ≤ f by omega)
  obtain ⟨pn, rfl⟩ := Int.eq_ofNat_of_zero_le (show 0 ≤ p by omega)
  obtain ⟨ln, rfl⟩ := Int.eq_ofNat_of_zero_le (show 0 ≤ l by omega)
  simp only [Int.toNat_natCast] at hs
  have hl : s.data.toList = metaL tn rn fn pn ln := by rw [← hs]
  have e1 : numAt s 8 8 = tn := by unfold numAt; rw [hl]; exact metaL_t _ _ _ _ _ (by omega)
  have e2 : numAt s 16 4 = rn := by unfold numAt; rw [hl]; exact metaL_r _ _ _ _ _ (by omega)
  have e3 : numAt s 20 4 = fn := by unfold numAt; rw [hl]; exact metaL_f _ _ _ _ _ (by omega)
  have e4 : numAt s 24 4 = pn := by unfold numAt; rw [hl]; exact metaL_p _ _ _ _ _ (by omega)
  have e5 : numAt s 28 4 = ln := by unfold numAt; rw [hl]; exact metaL_l _ _ _ _ _ (by omega)
  refine ⟨?_, ⟨_, by rw [hl, metaL_parts]; rfl⟩, by rw [e1], by rw [e2], by rw [e3], by rw [e4], by rw [e5]⟩
  rw [← len_size, hl, metaL_len]

/-- Are bytes a meta's? -/
def unmB (s : ByteArray) : Bool := rightM (numAt s 8 8) (numAt s 16 4) (numAt s 20 4) (numAt s 24 4) (numAt s 28 4) && decide (metaS (numAt s 8 8) (numAt s 16 4) (numAt s 20 4) (numAt s 24 4) (numAt s 28 4) = s)
def unmT (s : ByteArray) : Int := if unmB s then (numAt s 8 8 : Int) else 0
def unmR (s : ByteArray) : Int := if unmB s then (numAt s 16 4 : Int) else 0
def unmF (s : ByteArray) : Int := if unmB s then (numAt s 20 4 : Int) else 0
def unmP (s : ByteArray) : Int := if unmB s then (numAt s 24 4 : Int) else 0
def unmL (s : ByteArray) : Int := if unmB s then (numAt s 28 4 : Int) else 0
def unmE (s : ByteArray) : Int := if unmB s then 0 else 4

theorem unmB_yes {s : ByteArray} (h : unmB s = true) : IsMeta s (numAt s 8 8) (numAt s 16 4) (numAt s 20 4) (numAt s 24 4) (numAt s 28 4) := by
  unfold unmB at h
  simp only [Bool.and_eq_true, decide_eq_true_eq] at h
  exact h
theorem unmB_of {s : ByteArray} {t r f p l : Int} (h : IsMeta s t r f p l) : unmB s = true := by
  obtain ⟨h1, h2, h3, h4, h5, h6, h7⟩ := h.says
  have h8 := h
  rw [h3, h4, h5, h6, h7] at h8
  unfold unmB
  rw [h8.1, h8.2]
  simp
theorem unm_of {s : ByteArray} {t r f p l : Int} (h : IsMeta s t r f p l) : unmT s = t ∧ unmR s = r ∧ unmF s = f ∧ unmP s = p ∧ unmL s = l ∧ unmE s = 0 := by
  have hu := unmB_of h
  obtain ⟨h1, h2, h3, h4, h5, h6, h7⟩ := h.says
  unfold unmT unmR unmF unmP unmL unmE
  rw [hu]
  exact ⟨h3.symm, h4.symm, h5.symm, h6.symm, h7.symm, rfl⟩
theorem unm_no {s : ByteArray} (h : unmB s = false) : unmT s = 0 ∧ unmR s = 0 ∧ unmF s = 0 ∧ unmP s = 0 ∧ unmL s = 0 ∧ unmE s = 4 := by
  unfold unmT unmR unmF unmP unmL unmE
  rw [h]
  exact ⟨rfl, rfl, rfl, rfl, rfl, rfl⟩
end Go.Proofs.YtkkgiajjdcpicaaGreatDoor

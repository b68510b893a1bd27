/- Plain Lean: what the bytes of a page say, and which bytes are a page's. -/
import Derived.Test.YtkkgiajjdcpicaaGreatDoorPack
namespace Go.Proofs.YtkkgiajjdcpicaaGreatDoor
open Go.RowKit
open Go.PlainAid
set_option maxRecDepth 100000

theorem cut_mid (a x r : List UInt8) (p m : Nat) (ha : a.length = p) (hx : x.length = m) : ((a ++ (x ++ r)).drop p).take m = x := by
  subst ha; subst hx
  rw [List.drop_left, List.take_left]

theorem pageHead_len (k n t len : Nat) : (pageHead k n t len).length = 18 := by
  unfold pageHead lays
  simp [Be.low_len]
theorem pageTail_len (b : List UInt8) (h : b.length ≤ 488) : (pageTail b).length = 490 := by
  unfold pageTail
  simp
  omega
theorem pageS_len (k n t : Nat) (b : List UInt8) (h : b.length ≤ 488) : (pageS k n t b).length = 512 := by
  unfold pageS
  rw [List.length_append, List.length_append, pageHead_len, pageTail_len b h, Be.low_len]

theorem pageS_parts (k n t : Nat) (b : List UInt8) : pageS k n t b = [82, 66] ++ (Be.low k 1 ++ (Be.low 0 1 ++ (Be.low b.length 2 ++ (Be.low n 4 ++ (Be.low t 8 ++ (Be.low (pageSum k n t b) 4 ++ ([0, 0] ++ (b ++ List.replicate (488 - b.length) 0)))))))) := by
  unfold pageS pageHead pageTail lays
  simp [List.append_assoc]

theorem pageS_k (k n t : Nat) (b : List UInt8) (hk : k ≤ 4) : Be.num (((pageS k n t b).drop 2).take 1) = k := by
  rw [pageS_parts, cut_mid _ _ _ 2 1 rfl (Be.low_len _ _), Be.num_low_fit _ _ (by omega)]
theorem pageS_l (k n t : Nat) (b : List UInt8) (hb : b.length ≤ 488) : Be.num (((pageS k n t b).drop 4).take 2) = b.length := by
  rw [pageS_parts, ← List.append_assoc, ← List.append_assoc, cut_mid _ _ _ 4 2 (by simp [Be.low_len]) (Be.low_len _ _), Be.num_low_fit _ _ (by omega)]
theorem pageS_n (k n t : Nat) (b : List UInt8) (hn : n < 512) : Be.num (((pageS k n t b).drop 6).take 4) = n := by
  rw [pageS_parts, ← List.append_assoc, ← List.append_assoc, ← List.append_assoc, cut_mid _ _ _ 6 4 (by simp [Be.low_len]) (Be.low_len _ _), Be.num_low_fit _ _ (by omega)]
theorem pageS_t (k n t : Nat) (b : List UInt8) (ht : t ≤ 1099511627776) : Be.num (((pageS k n t b).drop 10).take 8) = t := by
  rw [pageS_parts, ← List.append_assoc, ← List.append_assoc, ← List.append_assoc, ← List.append_assoc, cut_mid _ _ _ 10 8 (by simp [Be.low_len]) (Be.low_len _ _), Be.num_low_fit _ _ (by omega)]
theorem pageS_b (k n t : Nat) (b : List UInt8) : ((pageS k n t b).drop 24).take b.length = b := by
  rw [pageS_parts, ← List.append_assoc, ← List.append_assoc, ← List.append_assoc, ← List.append_assoc, ← List.append_assoc, ← List.append_assoc, ← List.append_assoc, cut_mid _ _ _ 24 _ (by simp [Be.low_len]) rfl]

/-- Bytes are this page's. -/
def IsPage (s : ByteArray) (k n t : Int) (b : ByteArray) : Prop := rightB k n t b = true ∧ packS k n t b = s

theorem packS_right {k n t : Int} {b : ByteArray} (h : rightB k n t b = true) : packS k n t b = ⟨(pageS k.toNat n.toNat t.toNat b.data.toList).toArray⟩ := by unfold packS; rw [h]; rfl
theorem packE_right {k n t : Int} {b : ByteArray} (h : rightB k n t b = true) : packE k n t b = 0 := by unfold packE; rw [h]; rfl
theorem packS_wrong {k n t : Int} {b : ByteArray} (h : rightB k n t b = false) : packS k n t b = ⟨#[]⟩ := by unfold packS; rw [h]; rfl
theorem packE_wrong {k n t : Int} {b : ByteArray} (h : rightB k n t b = false) : packE k n t b = 4 := by unfold packE; rw [h]; rfl

/-- What a page's bytes say. -/
theorem IsPage.says {s : ByteArray} {k n t : Int} {b : ByteArray} (h : IsPage s k n t b) :
    s.size = 512 ∧ (∃ r, s.data.toList = 82 :: 66 :: r) ∧ k = numAt s 2 1 ∧ numAt s 4 2 = b.size ∧ n = numAt s 6 4 ∧ t = numAt s 10 8 ∧ b = s.extract 24 (24 + numAt s 4 2) := by
  obtain ⟨hr, hs⟩ := h
  obtain ⟨h1, h2, h3, h4, h5, h6, h7⟩ := rightB_yes hr
  rw [packS_right hr] at hs
  obtain ⟨kn, rfl⟩ := Int.eq_ofNat_of_zero_le (show 0 ≤ k by omega)
  obtain ⟨nn, rfl⟩ := Int.eq_ofNat_of_zero_le (show 0 ≤ n by omega)
  obtain ⟨tn, rfl⟩ := Int.eq_ofNat_of_zero_le (show 0 ≤ t by omega)
  simp only [Int.toNat_natCast] at hs
  have hl : s.data.toList = pageS kn nn tn b.data.toList := by rw [← hs]
  have e1 : numAt s 2 1 = kn := by unfold numAt; rw [hl]; exact pageS_k _ _ _ _ (by omega)
  have e2 : numAt s 4 2 = b.size := by unfold numAt; rw [hl]; exact pageS_l _ _ _ _ h7
  have e3 : numAt s 6 4 = nn := by unfold numAt; rw [hl]; exact pageS_n _ _ _ _ (by omega)
  have e4 : numAt s 10 8 = tn := by unfold numAt; rw [hl]; exact pageS_t _ _ _ _ (by omega)
  refine ⟨?_, ⟨_, by rw [hl, pageS_parts]; rfl⟩, by rw [e1], e2, by rw [e3], by rw [e4], ?_⟩
  · rw [← len_size, hl, pageS_len _ _ _ _ h7]
  · apply str_eq
    rw [extract_list, e2, hl, show 24 + b.size - 24 = b.size by omega]
    exact (pageS_b _ _ _ _).symm

/-- Are bytes a page's? -/
def unpB (s : ByteArray) : Bool := rightB (numAt s 2 1) (numAt s 6 4) (numAt s 10 8) (s.extract 24 (24 + numAt s 4 2)) && decide (packS (numAt s 2 1) (numAt s 6 4) (numAt s 10 8) (s.extract 24 (24 + numAt s 4 2)) = s)
def unpK (s : ByteArray) : Int := if unpB s then (numAt s 2 1 : Int) else 0
def unpN (s : ByteArray) : Int := if unpB s then (numAt s 6 4 : Int) else 0
def unpT (s : ByteArray) : Int := if unpB s then (numAt s 10 8 : Int) else 0
def unpY (s : ByteArray) : ByteArray := if unpB s then s.extract 24 (24 + numAt s 4 2) else ⟨#[]⟩
def unpE (s : ByteArray) : Int := if unpB s then 0 else 4

theorem unpB_yes {s : ByteArray} (h : unpB s = true) : IsPage s (numAt s 2 1) (numAt s 6 4) (numAt s 10 8) (s.extract 24 (24 + numAt s 4 2)) := by
  unfold unpB at h
  simp only [Bool.and_eq_true, decide_eq_true_eq] at h
  exact h
theorem unpB_of {s : ByteArray} {k n t : Int} {b : ByteArray} (h : IsPage s k n t b) : unpB s = true := by
  obtain ⟨h1, h2, h3, h4, h5, h6, h7⟩ := h.says
  have h8 := h
  rw [h3, h5, h6, h7] at h8
  unfold unpB
  rw [h8.1, h8.2]
  simp
theorem unp_of {s : ByteArray} {k n t : Int} {b : ByteArray} (h : IsPage s k n t b) : unpK s = k ∧ unpN s = n ∧ unpT s = t ∧ unpY s = b ∧ unpE s = 0 := by
  have hu := unpB_of h
  obtain ⟨h1, h2, h3, h4, h5, h6, h7⟩ := h.says
  unfold unpK unpN unpT unpY unpE
  rw [hu]
  exact ⟨h3.symm, h5.symm, h6.symm, h7.symm, rfl⟩
theorem unp_no {s : ByteArray} (h : unpB s = false) : unpK s = 0 ∧ unpN s = 0 ∧ unpT s = 0 ∧ unpY s = ⟨#[]⟩ ∧ unpE s = 4 := by
  unfold unpK unpN unpT unpY unpE
  rw [h]
  exact ⟨rfl, rfl, rfl, rfl, rfl⟩
end Go.Proofs.YtkkgiajjdcpicaaGreatDoor

/- Plain Lean: a tree's bytes whose lengths have more bytes than they need, and that they are read as the tree. -/
import Derived.Test.YtbiglfpikfjbpaaDoorBerC
namespace Go.Proofs.YtbiglfpikfjbpaaDoor
open Go.PlainAid
namespace PB
/-- A length of two bytes or of four. -/
def wideB (q : Bool) (n : Nat) : List UInt8 := if q then [132, UInt8.ofNat (n / 16777216 % 256), UInt8.ofNat (n / 65536 % 256), UInt8.ofNat (n / 256 % 256), UInt8.ofNat (n % 256)] else [130, UInt8.ofNat (n / 256 % 256), UInt8.ofNat (n % 256)]
theorem wideB_len (q : Bool) (n : Nat) : 1 ≤ (wideB q n).length ∧ (wideB q n).length ≤ 5 := by cases q <;> simp [wideB]
mutual
/-- a tree's bytes. -/
def wenc (q : Bool) : Tl → List UInt8
  | .mk c k g b ks => if k then UInt8.ofNat (c * 64 + g + 32).toNat :: (wideB q (wencs q ks).length ++ wencs q ks) else UInt8.ofNat (c * 64 + g).toNat :: (wideB q b.size ++ b.data.toList)
def wencs (q : Bool) : List Tl → List UInt8
  | [] => []
  | k :: ks => wenc q k ++ wencs q ks
end
theorem whead_laid (q : Bool) (x : UInt8) (n : Nat) (l : List UInt8) (hx : x.toNat % 32 ≠ 31) (hn : n < 65536) : head (x :: (wideB q n ++ l)) = (1 + (wideB q n).length, n, 0) := by
  unfold head
  rw [if_neg (by simp), byt_cons0, if_neg hx]
  cases q with
  | false =>
    have e : wideB false n = [130, UInt8.ofNat (n / 256 % 256), UInt8.ofNat (n % 256)] := rfl
    rw [e, List.cons_append, byt_cons1]
    have e1 := u8_ofNat (n := n / 256 % 256) (by omega)
    have e2 := u8_ofNat (n := n % 256) (by omega)
    simp only [num]
    rw [if_neg (by simp), if_neg (by decide), if_neg (by decide), if_neg (by simp)]
    have e3 : (130 : UInt8).toNat - 128 = 2 := by decide
    rw [e3]
    simp only [List.drop_succ_cons, List.drop_zero, List.cons_append, List.take_succ_cons, List.take_zero, List.nil_append, List.foldl_cons, List.foldl_nil, e1, e2, List.length_cons, List.length_nil]
    rw [show (0 * 256 + n / 256 % 256) * 256 + n % 256 = n by omega]
  | true =>
    have e : wideB true n = [132, UInt8.ofNat (n / 16777216 % 256), UInt8.ofNat (n / 65536 % 256), UInt8.ofNat (n / 256 % 256), UInt8.ofNat (n % 256)] := rfl
    rw [e, List.cons_append, byt_cons1]
    have e0 := u8_ofNat (n := n / 16777216 % 256) (by omega)
    have e1 := u8_ofNat (n := n / 65536 % 256) (by omega)
    have e2 := u8_ofNat (n := n / 256 % 256) (by omega)
    have e4 := u8_ofNat (n := n % 256) (by omega)
    simp only [num]
    rw [if_neg (by simp), if_neg (by decide), if_neg (by decide), if_neg (by simp)]
    have e3 : (132 : UInt8).toNat - 128 = 4 := by decide
    rw [e3]
    simp only [List.drop_succ_cons, List.drop_zero, List.cons_append, List.take_succ_cons, List.take_zero, List.nil_append, List.foldl_cons, List.foldl_nil, e0, e1, e2, e4, List.length_cons, List.length_nil]
    rw [show (((0 * 256 + n / 16777216 % 256) * 256 + n / 65536 % 256) * 256 + n / 256 % 256) * 256 + n % 256 = n by omega]
/-- The head of a tree's bytes, whatever stands behind. -/
theorem whead_enc (q : Bool) (t : Tl) (d : Nat) (h : t.right d = true) (hl : (wenc q t).length < 65536) (l : List UInt8) : (head (wenc q t ++ l)).2.2 = 0 ∧ span (wenc q t ++ l) = (wenc q t).length := by
  obtain ⟨c, k, g, b, ks⟩ := t
  unfold Tl.right at h
  by_cases hbad : 16 < d ∨ c < 0 ∨ 3 < c ∨ g < 0 ∨ 30 < g
  · rw [if_pos hbad] at h; cases h
  unfold span
  cases k with
  | false =>
    have he : wenc q (.mk c false g b ks) = UInt8.ofNat (c * 64 + g).toNat :: (wideB q b.size ++ b.data.toList) := by unfold wenc; rw [if_neg (by decide)]
    rw [he] at hl ⊢
    have hu := u8_int (c * 64 + g) (by omega) (by omega)
    rw [List.cons_append, List.append_assoc, whead_laid q _ _ _ (by omega) (by simp at hl; have : b.size = b.data.size := rfl; omega)]
    refine ⟨rfl, ?_⟩
    simp
    have : b.size = b.data.size := rfl
    omega
  | true =>
    have he : wenc q (.mk c true g b ks) = UInt8.ofNat (c * 64 + g + 32).toNat :: (wideB q (wencs q ks).length ++ wencs q ks) := by unfold wenc; rw [if_pos rfl]
    rw [he] at hl ⊢
    have hu := u8_int (c * 64 + g + 32) (by omega) (by omega)
    rw [List.cons_append, List.append_assoc, whead_laid q _ _ _ (by omega) (by simp at hl; omega)]
    refine ⟨rfl, ?_⟩
    simp
    omega

theorem wenc_pos (q : Bool) (t : Tl) : 2 ≤ (wenc q t).length := by
  obtain ⟨c, k, g, b, ks⟩ := t
  unfold wenc
  split
  · simp; have := (wideB_len q (wencs q ks).length).1; omega
  · simp; have := (wideB_len q b.size).1; omega

mutual
theorem wval_enc (q : Bool) : ∀ (t : Tl) (d : Nat), 1 ≤ d → t.right d = true → (wenc q t).length < 65536 → val (16 - d) (wenc q t) = .ok t
  | .mk c k g b ks, d, hd, h, hl => by
    have hh := whead_enc q _ d h hl []
    rw [List.append_nil] at hh
    rw [val_eq]
    unfold valOf
    rw [if_neg (by omega)]
    have h' := h
    unfold Tl.right at h
    by_cases hbad : 16 < d ∨ c < 0 ∨ 3 < c ∨ g < 0 ∨ 30 < g
    · rw [if_pos hbad] at h; cases h
    rw [if_neg hbad] at h
    cases k with
    | false =>
      rw [if_neg (by decide)] at h
      obtain rfl : ks = [] := by simpa using h
      have he : wenc q (.mk c false g b []) = UInt8.ofNat (c * 64 + g).toNat :: (wideB q b.size ++ b.data.toList) := by unfold wenc; rw [if_neg (by decide)]
      rw [he] at hl ⊢
      have hu := u8_int (c * 64 + g) (by omega) (by omega)
      rw [byt_cons0, if_pos (by omega), whead_laid q _ _ _ (by omega) (by simp at hl; have : b.size = b.data.size := rfl; omega)]
      dsimp only
      have e1 : ((((UInt8.ofNat (c * 64 + g).toNat).toNat / 64 : Nat)) : Int) = c := by omega
      have e2 : ((((UInt8.ofNat (c * 64 + g).toNat).toNat % 32 : Nat)) : Int) = g := by omega
      have e3 : List.drop (1 + (wideB q b.size).length) (UInt8.ofNat (c * 64 + g).toNat :: (wideB q b.size ++ b.data.toList)) = b.data.toList := by rw [Nat.add_comm, List.drop_succ_cons, List.drop_left]
      rw [e1, e2, e3]
    | true =>
      rw [if_pos rfl] at h
      simp only [Bool.and_eq_true] at h
      obtain ⟨hr, hb⟩ := h
      have hb0 : b = ByteArray.empty := by
        have : b.toList = [] := by simpa using hb
        rw [ByteArray.toList_eq] at this
        apply str_eq
        rw [this]
        rfl
      subst hb0
      have he : wenc q (.mk c true g ByteArray.empty ks) = UInt8.ofNat (c * 64 + g + 32).toNat :: (wideB q (wencs q ks).length ++ wencs q ks) := by unfold wenc; rw [if_pos rfl]
      rw [he] at hl ⊢
      have hu := u8_int (c * 64 + g + 32) (by omega) (by omega)
      rw [byt_cons0, if_neg (by omega), whead_laid q _ _ _ (by omega) (by simp at hl; omega)]
      dsimp only
      have e1 : ((((UInt8.ofNat (c * 64 + g + 32).toNat).toNat / 64 : Nat)) : Int) = c := by omega
      have e2 : ((((UInt8.ofNat (c * 64 + g + 32).toNat).toNat % 32 : Nat)) : Int) = g := by omega
      have e3 : List.drop (1 + (wideB q (wencs q ks).length).length) (UInt8.ofNat (c * 64 + g + 32).toNat :: (wideB q (wencs q ks).length ++ wencs q ks)) = wencs q ks := by rw [Nat.add_comm, List.drop_succ_cons, List.drop_left]
      rw [e1, e2, e3]
      have := wkids_enc q ks d (by omega) (by omega) hr (by simp at hl; omega) (UInt8.ofNat (c * 64 + g + 32).toNat :: (wideB q (wencs q ks).length ++ wencs q ks)).length (by simp; omega)
      rw [this]
theorem wkids_enc (q : Bool) : ∀ (ks : List Tl) (d : Nat), 1 ≤ d → d ≤ 16 → Tl.rights ks (d + 1) = true → (wencs q ks).length < 65536 → ∀ fu, (wencs q ks).length ≤ fu → kidsOf (sub (16 - d)) fu (wencs q ks) = .ok ks
  | [], d, _, _, _, _, fu, _ => by unfold wencs; exact kidsOf_nil _ _
  | t :: ks, d, hd, hd2, h, hl, fu, hf => by
    unfold Tl.rights at h
    simp only [Bool.and_eq_true] at h
    obtain ⟨h1, h2⟩ := h
    unfold wencs at hl hf ⊢
    rw [List.length_append] at hl hf
    have hd3 : d ≤ 15 := by
      obtain ⟨c, k, g, b, ks'⟩ := t
      unfold Tl.right at h1
      by_cases hbad : 16 < d + 1 ∨ c < 0 ∨ 3 < c ∨ g < 0 ∨ 30 < g
      · rw [if_pos hbad] at h1; cases h1
      · omega
    obtain ⟨m, hm⟩ : ∃ m, 16 - d = m + 1 := ⟨15 - d, by omega⟩
    have hv := wval_enc q t (d + 1) (by omega) h1 (by omega)
    have hm2 : 16 - (d + 1) = m := by omega
    rw [hm2] at hv
    have hh := whead_enc q t (d + 1) h1 (by omega) (wencs q ks)
    have hp := wenc_pos q t
    rw [hm]
    unfold sub
    rw [kidsOf_next (val m) fu (wenc q t ++ wencs q ks) t (by rw [List.length_append]; omega) (by rw [List.length_append]; omega) (by rw [List.length_append]; omega) (by rw [hh.2, List.take_left]; exact hv)]
    rw [hh.2, List.drop_left]
    have := wkids_enc q ks d hd hd2 h2 (by omega) fu (by omega)
    rw [hm] at this
    unfold sub at this
    rw [this]
    rfl
end

theorem wdec_enc (q : Bool) (t : Tl) (h : t.right 1 = true) (hl : (wenc q t).length ≤ 8192) (l : List UInt8) : dec (wenc q t ++ l) = (t, (wenc q t).length, 0) := by
  have hh := whead_enc q t 1 h (by omega) l
  have ht : total (wenc q t ++ l) = ((wenc q t).length, 0) := by
    unfold total
    have e : (head (wenc q t ++ l)).1 + (head (wenc q t ++ l)).2.1 = (wenc q t).length := hh.2
    rw [if_neg (by omega), if_neg (by omega), e]
  unfold dec
  rw [ht]
  dsimp only
  rw [if_neg (by simp), if_neg (by rw [List.length_append]; omega), List.take_left, wval_enc q t 1 (by omega) h (by omega)]


mutual
/-- They are at most three times as long. -/
theorem wenc_len (q : Bool) : ∀ (t : Tl), (wenc q t).length ≤ 3 * (enc t).length
  | .mk c k g b ks => by
    have ih := wencs_len q ks
    unfold wenc enc
    cases k with
    | true =>
      rw [if_pos rfl, if_pos rfl]
      have h1 := (wideB_len q (wencs q ks).length).2
      have h2 := (lenB_len (encs ks).length).1
      simp only [List.length_cons, List.length_append]
      omega
    | false =>
      rw [if_neg (by decide), if_neg (by decide)]
      have h1 := (wideB_len q b.size).2
      have h2 := (lenB_len b.size).1
      simp only [List.length_cons, List.length_append]
      omega
theorem wencs_len (q : Bool) : ∀ (ks : List Tl), (wencs q ks).length ≤ 3 * (encs ks).length
  | [] => by simp [wencs, encs]
  | t :: ks => by
    have h1 := wenc_len q t
    have h2 := wencs_len q ks
    unfold wencs encs
    simp only [List.length_append]
    omega
end
end PB
end Go.Proofs.YtbiglfpikfjbpaaDoor

/- Plain Lean: a tree's bytes, and that they are read as the tree. -/
import Derived.Test.YtipphdadibdifaaRight
import Derived.Test.YtipphdadibdifaaBerLen
import Derived.Test.YtipphdadibdifaaDecode2
namespace Go.Proofs.Ytipphdadibdifaa
open Go.PlainAid
namespace PB

mutual
/-- a tree's bytes. -/
def enc : Tl → List UInt8
  | .mk c k g b ks => if k then UInt8.ofNat (c * 64 + g + 32).toNat :: (lenB (encs ks).length ++ encs ks) else UInt8.ofNat (c * 64 + g).toNat :: (lenB b.size ++ b.data.toList)
def encs : List Tl → List UInt8
  | [] => []
  | k :: ks => enc k ++ encs ks
end

theorem encs_app (a b : List Tl) : encs (a ++ b) = encs a ++ encs b := by
  induction a with
  | nil => simp [encs]
  | cons x a ih => simp [encs, ih]

theorem lenB_len (n : Nat) : 1 ≤ (lenB n).length ∧ (lenB n).length ≤ 4 := by
  unfold lenB
  repeat' split
  all_goals simp

theorem lenB_mono {m n : Nat} (h : m ≤ n) : (lenB m).length ≤ (lenB n).length := by
  unfold lenB
  repeat' split
  all_goals first | omega | simp

theorem u8_ofNat {n : Nat} (h : n < 256) : (UInt8.ofNat n).toNat = n := by rw [UInt8.toNat_ofNat']; omega

theorem byt_cons0 (x : UInt8) (l : List UInt8) : byt (x :: l) 0 = x.toNat := rfl
theorem byt_cons1 (x y : UInt8) (l : List UInt8) : byt (x :: y :: l) 1 = y.toNat := rfl

/-- What the head of laid bytes says. -/
theorem head_laid (x : UInt8) (n : Nat) (l : List UInt8) (hx : x.toNat % 32 ≠ 31) (hn : n < 16777216) : head (x :: (lenB n ++ l)) = (1 + (lenB n).length, n, 0) := by
  unfold head
  rw [if_neg (by simp), byt_cons0, if_neg hx]
  by_cases h1 : n < 128
  · have e : lenB n = [UInt8.ofNat n] := by unfold lenB; rw [if_pos h1]
    rw [e, List.singleton_append, byt_cons1, u8_ofNat (by omega), if_neg (by simp), if_pos h1]
    rfl
  by_cases h2 : n < 256
  · have e : lenB n = [129, UInt8.ofNat n] := by unfold lenB; rw [if_neg h1, if_pos h2]
    rw [e, List.cons_append, byt_cons1]
    have e1 := u8_ofNat (n := n) (by omega)
    simp only [num]
    rw [if_neg (by simp), if_neg (by decide), if_neg (by decide), if_neg (by simp)]
    have e3 : (129 : UInt8).toNat - 128 = 1 := by decide
    rw [e3]
    simp only [List.drop_succ_cons, List.drop_zero, List.cons_append, List.take_succ_cons, List.take_zero, List.nil_append, List.foldl_cons, List.foldl_nil, e1, List.length_cons, List.length_nil]
    rw [Nat.zero_mul, Nat.zero_add]
  by_cases h3 : n < 65536
  · have e : lenB n = [130, UInt8.ofNat (n / 256), UInt8.ofNat (n % 256)] := by unfold lenB; rw [if_neg h1, if_neg h2, if_pos h3]
    rw [e, List.cons_append, byt_cons1]
    have e1 := u8_ofNat (n := n / 256) (by omega)
    have e2 := u8_ofNat (n := n % 256) (by omega)
    simp only [num]
    rw [if_neg (by simp), if_neg (by decide), if_neg (by decide), if_neg (by simp)]
    have e3 : (130 : UInt8).toNat - 128 = 2 := by decide
    rw [e3]
    simp only [List.drop_succ_cons, List.drop_zero, List.cons_append, List.take_succ_cons, List.take_zero, List.nil_append, List.foldl_cons, List.foldl_nil, e1, e2, List.length_cons, List.length_nil]
    rw [show (0 * 256 + n / 256) * 256 + n % 256 = n by omega]
  · have e : lenB n = [131, UInt8.ofNat (n / 65536), UInt8.ofNat (n / 256 % 256), UInt8.ofNat (n % 256)] := by unfold lenB; rw [if_neg h1, if_neg h2, if_neg h3]
    rw [e, List.cons_append, byt_cons1]
    have e1 := u8_ofNat (n := n / 65536) (by omega)
    have e2 := u8_ofNat (n := n / 256 % 256) (by omega)
    have e4 := u8_ofNat (n := n % 256) (by omega)
    simp only [num]
    rw [if_neg (by simp), if_neg (by decide), if_neg (by decide), if_neg (by simp)]
    have e3 : (131 : UInt8).toNat - 128 = 3 := by decide
    rw [e3]
    simp only [List.drop_succ_cons, List.drop_zero, List.cons_append, List.take_succ_cons, List.take_zero, List.nil_append, List.foldl_cons, List.foldl_nil, e1, e2, e4, List.length_cons, List.length_nil]
    rw [show ((0 * 256 + n / 65536) * 256 + n / 256 % 256) * 256 + n % 256 = n by omega]

theorem u8_int (z : Int) (h0 : 0 ≤ z) (h1 : z < 256) : ((UInt8.ofNat z.toNat).toNat : Int) = z := by rw [u8_ofNat (by omega)]; omega

/-- The head of a tree's bytes, whatever stands behind. -/
theorem head_enc (t : Tl) (d : Nat) (h : t.right d = true) (hl : (enc t).length < 16777216) (l : List UInt8) : (head (enc t ++ l)).2.2 = 0 ∧ span (enc t ++ l) = (enc t).length := by
  obtain ⟨c, k, g, b, ks⟩ := t
  unfold Tl.right at h
  by_cases hbad : 16 < d ∨ c < 0 ∨ 3 < c ∨ g < 0 ∨ 30 < g
  · rw [if_pos hbad] at h; cases h
  unfold span
  cases k with
  | false =>
    have he : enc (.mk c false g b ks) = UInt8.ofNat (c * 64 + g).toNat :: (lenB b.size ++ b.data.toList) := by unfold enc; rw [if_neg (by decide)]
    rw [he] at hl ⊢
    have hu := u8_int (c * 64 + g) (by omega) (by omega)
    rw [List.cons_append, List.append_assoc, head_laid _ _ _ (by omega) (by simp at hl; have : b.size = b.data.size := rfl; omega)]
    refine ⟨rfl, ?_⟩
    simp
    have : b.size = b.data.size := rfl
    omega
  | true =>
    have he : enc (.mk c true g b ks) = UInt8.ofNat (c * 64 + g + 32).toNat :: (lenB (encs ks).length ++ encs ks) := by unfold enc; rw [if_pos rfl]
    rw [he] at hl ⊢
    have hu := u8_int (c * 64 + g + 32) (by omega) (by omega)
    rw [List.cons_append, List.append_assoc, head_laid _ _ _ (by omega) (by simp at hl; omega)]
    refine ⟨rfl, ?_⟩
    simp
    omega

theorem enc_pos (t : Tl) : 2 ≤ (enc t).length := by
  obtain ⟨c, k, g, b, ks⟩ := t
  unfold enc
  split
  · simp; have := (lenB_len (encs ks).length).1; omega
  · simp; have := (lenB_len b.size).1; omega

mutual
theorem val_enc : ∀ (t : Tl) (d : Nat), 1 ≤ d → t.right d = true → (enc t).length < 16777216 → val (16 - d) (enc t) = .ok t
  | .mk c k g b ks, d, hd, h, hl => by
    have hh := head_enc _ d h hl []
    rw [List.append_nil] at hh
    rw [val_eq]
    unfold valOf
    rw [if_neg (by omega)]
    have h' := h
    unfold Tl.right at h
    by_cases hbad : 16 < d ∨ c < 0 ∨ 3 < c ∨ g < 0 ∨ 30 < g
    · rw [if_pos hbad] at h; cases h
    rw [if_neg hbad] at h
    cases k with
    | false =>
      rw [if_neg (by decide)] at h
      obtain rfl : ks = [] := by simpa using h
      have he : enc (.mk c false g b []) = UInt8.ofNat (c * 64 + g).toNat :: (lenB b.size ++ b.data.toList) := by unfold enc; rw [if_neg (by decide)]
      rw [he] at hl ⊢
      have hu := u8_int (c * 64 + g) (by omega) (by omega)
      rw [byt_cons0, if_pos (by omega), head_laid _ _ _ (by omega) (by simp at hl; have : b.size = b.data.size := rfl; omega)]
      dsimp only
      have e1 : ((((UInt8.ofNat (c * 64 + g).toNat).toNat / 64 : Nat)) : Int) = c := by omega
      have e2 : ((((UInt8.ofNat (c * 64 + g).toNat).toNat % 32 : Nat)) : Int) = g := by omega
      have e3 : List.drop (1 + (lenB b.size).length) (UInt8.ofNat (c * 64 + g).toNat :: (lenB b.size ++ b.data.toList)) = b.data.toList := by rw [Nat.add_comm, List.drop_succ_cons, List.drop_left]
      rw [e1, e2, e3]
    | true =>
      rw [if_pos rfl] at h
      simp only [Bool.and_eq_true] at h
      obtain ⟨hr, hb⟩ := h
      have hb0 : b = ByteArray.empty := by
        have : b.toList = [] := by simpa using hb
        rw [ByteArray.toList_eq] at this
        apply str_eq
        rw [this]
        rfl
      subst hb0
      have he : enc (.mk c true g ByteArray.empty ks) = UInt8.ofNat (c * 64 + g + 32).toNat :: (lenB (encs ks).length ++ encs ks) := by unfold enc; rw [if_pos rfl]
      rw [he] at hl ⊢
      have hu := u8_int (c * 64 + g + 32) (by omega) (by omega)
      rw [byt_cons0, if_neg (by omega), head_laid _ _ _ (by omega) (by simp at hl; omega)]
      dsimp only
      have e1 : ((((UInt8.ofNat (c * 64 + g + 32).toNat).toNat / 64 : Nat)) : Int) = c := by omega
      have e2 : ((((UInt8.ofNat (c * 64 + g + 32).toNat).toNat % 32 : Nat)) : Int) = g := by omega
      have e3 : List.drop (1 + (lenB (encs ks).length).length) (UInt8.ofNat (c * 64 + g + 32).toNat :: (lenB (encs ks).length ++ encs ks)) = encs ks := by rw [Nat.add_comm, List.drop_succ_cons, List.drop_left]
      rw [e1, e2, e3]
      have := kids_enc ks d (by omega) (by omega) hr (by simp at hl; omega) (UInt8.ofNat (c * 64 + g + 32).toNat :: (lenB (encs ks).length ++ encs ks)).length (by simp; omega)
      rw [this]
theorem kids_enc : ∀ (ks : List Tl) (d : Nat), 1 ≤ d → d ≤ 16 → Tl.rights ks (d + 1) = true → (encs ks).length < 16777216 → ∀ fu, (encs ks).length ≤ fu → kidsOf (sub (16 - d)) fu (encs ks) = .ok ks
  | [], d, _, _, _, _, fu, _ => by unfold encs; exact kidsOf_nil _ _
  | t :: ks, d, hd, hd2, h, hl, fu, hf => by
    unfold Tl.rights at h
    simp only [Bool.and_eq_true] at h
    obtain ⟨h1, h2⟩ := h
    unfold encs at hl hf ⊢
    rw [List.length_append] at hl hf
    have hd3 : d ≤ 15 := by
      obtain ⟨c, k, g, b, ks'⟩ := t
      unfold Tl.right at h1
      by_cases hbad : 16 < d + 1 ∨ c < 0 ∨ 3 < c ∨ g < 0 ∨ 30 < g
      · rw [if_pos hbad] at h1; cases h1
      · omega
    obtain ⟨m, hm⟩ : ∃ m, 16 - d = m + 1 := ⟨15 - d, by omega⟩
    have hv := val_enc t (d + 1) (by omega) h1 (by omega)
    have hm2 : 16 - (d + 1) = m := by omega
    rw [hm2] at hv
    have hh := head_enc t (d + 1) h1 (by omega) (encs ks)
    have hp := enc_pos t
    rw [hm]
    unfold sub
    rw [kidsOf_next (val m) fu (enc t ++ encs ks) t (by rw [List.length_append]; omega) (by rw [List.length_append]; omega) (by rw [List.length_append]; omega) (by rw [hh.2, List.take_left]; exact hv)]
    rw [hh.2, List.drop_left]
    have := kids_enc ks d hd hd2 h2 (by omega) fu (by omega)
    rw [hm] at this
    unfold sub at this
    rw [this]
    rfl
end

theorem dec_enc (t : Tl) (h : t.right 1 = true) (hl : (enc t).length ≤ 8192) (l : List UInt8) : dec (enc t ++ l) = (t, (enc t).length, 0) := by
  have hh := head_enc t 1 h (by omega) l
  have ht : total (enc t ++ l) = ((enc t).length, 0) := by
    unfold total
    have e : (head (enc t ++ l)).1 + (head (enc t ++ l)).2.1 = (enc t).length := hh.2
    rw [if_neg (by omega), if_neg (by omega), e]
  unfold dec
  rw [ht]
  dsimp only
  rw [if_neg (by simp), if_neg (by rw [List.length_append]; omega), List.take_left, val_enc t 1 (by omega) h (by omega)]

theorem dec_cut (t : Tl) (h : t.right 1 = true) (hl : (enc t).length ≤ 8192) (k : Nat) (hk : k < (enc t).length) : dec ((enc t).take k) = (.mk 0 false 0 ByteArray.empty [], 0, 3) := by
  have hh := head_enc t 1 h (by omega) []
  rw [List.append_nil] at hh
  unfold dec
  by_cases h3 : (head ((enc t).take k)).2.2 = 3
  · have ht : total ((enc t).take k) = (0, 3) := by unfold total; rw [if_pos (by omega), h3]
    rw [ht]
    dsimp only
    rw [if_pos (by decide)]
  · have ha := head_app ((enc t).take k) ((enc t).drop k) h3
    rw [List.take_append_drop] at ha
    have ht : total ((enc t).take k) = ((enc t).length, 0) := by
      unfold total
      rw [← ha]
      have e : (head (enc t)).1 + (head (enc t)).2.1 = (enc t).length := hh.2
      rw [if_neg (by omega), if_neg (by omega), e]
    rw [ht]
    dsimp only
    rw [if_neg (by simp), if_pos (by rw [List.length_take]; omega)]
end PB
end Go.Proofs.Ytipphdadibdifaa

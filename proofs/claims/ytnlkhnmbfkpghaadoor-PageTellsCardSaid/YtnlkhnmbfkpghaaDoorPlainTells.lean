/- Plain Lean: bytes of which up to four neighbouring ones were turned have another sum. -/
import Derived.Test.YtnlkhnmbfkpghaaDoorPlainMeta
namespace Go.Proofs.YtnlkhnmbfkpghaaDoor
open Go.RowKit
open Go.PlainAid
set_option maxRecDepth 100000
namespace Crc

theorem bit8_shift (q : Nat) : bit8 (256 * q) = q := by
  unfold bit8
  rw [show 256 * q = 2 * (2 * (2 * (2 * (2 * (2 * (2 * (2 * q))))))) by omega]
  simp only [bit_even]

theorem bit8_inj {a b : Nat} (ha : a < 4294967296) (hb : b < 4294967296) (h : bit8 a = bit8 b) : a = b := by
  unfold bit8 at h
  have l1 := fun r h => bit_lt r h
  have a1 := l1 a ha; have a2 := l1 _ a1; have a3 := l1 _ a2; have a4 := l1 _ a3; have a5 := l1 _ a4; have a6 := l1 _ a5; have a7 := l1 _ a6
  have b1 := l1 b hb; have b2 := l1 _ b1; have b3 := l1 _ b2; have b4 := l1 _ b3; have b5 := l1 _ b4; have b6 := l1 _ b5; have b7 := l1 _ b6
  exact bit_inj ha hb (bit_inj a1 b1 (bit_inj a2 b2 (bit_inj a3 b3 (bit_inj a4 b4 (bit_inj a5 b5 (bit_inj a6 b6 (bit_inj a7 b7 h)))))))

/-- Bytes as a number, the lowest first, by xor. -/
def pk : List UInt8 → Nat
  | [] => 0
  | c :: l => c.toNat ^^^ 256 * pk l

def bit8N : Nat → Nat → Nat
  | 0, r => r
  | n + 1, r => bit8N n (bit8 r)

theorem reg_pk (x : List UInt8) : ∀ r, reg r x = bit8N x.length (r ^^^ pk x) := by
  induction x with
  | nil => intro r; simp [reg, bit8N, pk]
  | cons c l ih =>
    intro r
    show reg (byt r c) l = bit8N l.length (bit8 (r ^^^ (c.toNat ^^^ 256 * pk l)))
    rw [ih]
    congr 1
    unfold byt
    rw [← Nat.xor_assoc, bit8_xor, bit8_xor (r ^^^ c.toNat), bit8_shift]
    rw [bit8_xor]

theorem bit8N_inj (n : Nat) : ∀ a b, a < 4294967296 → b < 4294967296 → bit8N n a = bit8N n b → a = b := by
  induction n with
  | zero => intro a b _ _ h; exact h
  | succ n ih => intro a b ha hb h; exact bit8_inj ha hb (ih _ _ (bit8_lt a ha) (bit8_lt b hb) h)

theorem xor_div (c q : Nat) (hc : c < 256) : (c ^^^ 256 * q) / 256 = q ∧ (c ^^^ 256 * q) % 256 = c := by
  have h1 := Nat.shiftRight_xor_distrib (a := c) (b := 256 * q) (i := 8)
  have h2 := Nat.xor_mod_two_pow (a := c) (b := 256 * q) (n := 8)
  simp only [Nat.shiftRight_eq_div_pow] at h1
  have e : 2 ^ 8 = 256 := by decide
  rw [e] at h1 h2
  rw [Nat.div_eq_of_lt hc, Nat.zero_xor, Nat.mul_div_cancel_left _ (by decide)] at h1
  rw [Nat.mod_eq_of_lt hc, Nat.mul_mod_right, Nat.xor_zero] at h2
  exact ⟨h1, h2⟩

theorem pk_inj : ∀ (x y : List UInt8), x.length = y.length → pk x = pk y → x = y
  | [], [], _, _ => rfl
  | [], _ :: _, h, _ => by simp at h
  | _ :: _, [], h, _ => by simp at h
  | c :: x, d :: y, h, hp => by
    have hc := xor_div c.toNat (pk x) c.toNat_lt
    have hd := xor_div d.toNat (pk y) d.toNat_lt
    have hp2 : c.toNat ^^^ 256 * pk x = d.toNat ^^^ 256 * pk y := hp
    rw [hp2] at hc
    have e1 : pk x = pk y := hc.1.symm.trans hd.1
    have e2 : c.toNat = d.toNat := hc.2.symm.trans hd.2
    rw [UInt8.toNat_inj.1 e2, pk_inj x y (by simpa using h) e1]

theorem pk_lt : ∀ (x : List UInt8), pk x < 256 ^ x.length
  | [] => by simp [pk]
  | c :: x => by
    have ih := pk_lt x
    have h := xor_div c.toNat (pk x) c.toNat_lt
    have hc := c.toNat_lt
    show c.toNat ^^^ 256 * pk x < 256 ^ (x.length + 1)
    rw [Nat.pow_succ]
    omega

theorem reg_inj4 {x y : List UInt8} (h4 : x.length ≤ 4) (hl : x.length = y.length) {r : Nat} (hr : r < 4294967296) (h : reg r x = reg r y) : x = y := by
  rw [reg_pk, reg_pk, ← hl] at h
  have hp : ∀ z : List UInt8, z.length ≤ 4 → pk z < 4294967296 := fun z hz => by
    have h1 := pk_lt z
    have h2 : 256 ^ z.length ≤ 256 ^ 4 := Nat.pow_le_pow_right (by decide) hz
    have h3 : 256 ^ 4 = 4294967296 := by decide
    omega
  have h1 := bit8N_inj _ _ _ (Nat.xor_lt_two_pow (n := 32) hr (hp x h4)) (Nat.xor_lt_two_pow (n := 32) hr (hp y (by omega))) h
  have h2 := congrArg (fun z => r ^^^ z) h1
  simp only [← Nat.xor_assoc, Nat.xor_self, Nat.zero_xor] at h2
  exact pk_inj x y hl h2

theorem reg_app (r : Nat) (a b : List UInt8) : reg r (a ++ b) = reg (reg r a) b := by unfold reg; rw [List.foldl_append]

theorem byt_inj {r q : Nat} {c : UInt8} (hr : r < 4294967296) (hq : q < 4294967296) (h : byt r c = byt q c) : r = q := by
  unfold byt at h
  have hc := c.toNat_lt
  have h1 := bit8_inj (Nat.xor_lt_two_pow (n := 32) hr (by omega)) (Nat.xor_lt_two_pow (n := 32) hq (by omega)) h
  have h2 := congrArg (· ^^^ c.toNat) h1
  simpa [Nat.xor_assoc] using h2
theorem reg_inj (l : List UInt8) : ∀ r q, r < 4294967296 → q < 4294967296 → reg r l = reg q l → r = q := by
  induction l with
  | nil => intro r q _ _ h; exact h
  | cons c l ih => intro r q hr hq h; exact byt_inj hr hq (ih _ _ (byt_lt r c hr) (byt_lt q c hq) h)

/-- Texts of one length that differ in four neighbouring places at most have one sum only if they are one. -/
theorem sum_burst {l m : List UInt8} {p : Nat} (hl : l.length = m.length) (h : ∀ i, i < p ∨ p + 4 ≤ i → l[i]? = m[i]?) (hs : sum l = sum m) : l = m := by
  have e : ∀ z : List UInt8, z = z.take p ++ ((z.drop p).take 4 ++ z.drop (p + 4)) := fun z => by
    rw [← List.drop_drop, List.take_append_drop, List.take_append_drop]
  have e1 : l.take p = m.take p := List.ext_getElem? fun i => by
    rw [List.getElem?_take, List.getElem?_take]
    by_cases hi : i < p
    · rw [if_pos hi, if_pos hi, h i (.inl hi)]
    · rw [if_neg hi, if_neg hi]
  have e2 : l.drop (p + 4) = m.drop (p + 4) := List.ext_getElem? fun i => by
    rw [List.getElem?_drop, List.getElem?_drop]
    exact h _ (.inr (by omega))
  have hx : ((l.drop p).take 4).length = ((m.drop p).take 4).length := by simp [hl]
  have hr : reg 4294967295 l = reg 4294967295 m := by
    unfold sum on at hs
    have h1 := reg_lt l 4294967295 (by decide)
    have h2 := reg_lt m 4294967295 (by decide)
    simp only [Nat.sub_zero] at hs
    omega
  rw [e l, e m, e1, e2, reg_app, reg_app, reg_app, reg_app] at hr
  have hp := reg_lt (m.take p) 4294967295 (by decide)
  have h1 := reg_inj _ _ _ (reg_lt _ _ hp) (reg_lt _ _ hp) hr
  have h2 := reg_inj4 (by simp; omega) hx hp h1
  rw [e l, e m, e1, e2, h2]
end Crc

/-- Two pages' bytes that differ in four neighbouring places at most, all of them the sum's or none, are one. -/
theorem page_sums (k n t : Nat) (b : List UInt8) : ((pageS k n t b).drop 18).take 4 = Be.low (Crc.sum ((pageS k n t b).take 18 ++ [0, 0, 0, 0] ++ (pageS k n t b).drop 22)) 4 := by
  have e : pageS k n t b = pageHead k n t b.length ++ (Be.low (pageSum k n t b) 4 ++ pageTail b) := by unfold pageS; rw [List.append_assoc]
  have h1 : (pageS k n t b).take 18 = pageHead k n t b.length := by rw [e, List.take_left' (pageHead_len _ _ _ _)]
  have h2 : (pageS k n t b).drop 18 = Be.low (pageSum k n t b) 4 ++ pageTail b := by rw [e, List.drop_left' (pageHead_len _ _ _ _)]
  have h3 : (pageS k n t b).drop 22 = pageTail b := by
    rw [show 22 = 18 + 4 by omega, ← List.drop_drop, h2, List.drop_left' (Be.low_len _ _)]
  rw [h2, h1, h3, List.take_left' (Be.low_len _ _)]
  rfl

theorem low_inj4 {a b : Nat} (ha : a < 4294967296) (hb : b < 4294967296) (h : Be.low a 4 = Be.low b 4) : a = b := by
  have h1 := congrArg Be.num h
  rw [Be.num_low_fit _ _ (by omega), Be.num_low_fit _ _ (by omega)] at h1
  exact h1

theorem seg_ext {l m : List UInt8} {a n : Nat} (h : ∀ i, a ≤ i → i < a + n → l[i]? = m[i]?) : (l.drop a).take n = (m.drop a).take n := List.ext_getElem? fun i => by
  rw [List.getElem?_take, List.getElem?_take]
  by_cases hi : i < n
  · rw [if_pos hi, if_pos hi, List.getElem?_drop, List.getElem?_drop]
    exact h _ (by omega) (by omega)
  · rw [if_neg hi, if_neg hi]
theorem seg_at {l m : List UInt8} {a n : Nat} (h : (l.drop a).take n = (m.drop a).take n) (i : Nat) (h1 : a ≤ i) (h2 : i < a + n) : l[i]? = m[i]? := by
  have := congrArg (fun z => z[i - a]?) h
  simp only [List.getElem?_take, List.getElem?_drop] at this
  rw [if_pos (by omega), if_pos (by omega), show a + (i - a) = i by omega] at this
  exact this

theorem page_turned {l m : List UInt8} {p : Nat} (hl : l.length = 512) (hm : m.length = 512)
    (h : ∀ i, i < p ∨ p + 4 ≤ i → l[i]? = m[i]?)
    (sl : (l.drop 18).take 4 = Be.low (Crc.sum (l.take 18 ++ [0, 0, 0, 0] ++ l.drop 22)) 4) (sm : (m.drop 18).take 4 = Be.low (Crc.sum (m.take 18 ++ [0, 0, 0, 0] ++ m.drop 22)) 4)
    (hc : (∀ i, 18 ≤ i → i < 22 → l[i]? = m[i]?) ∨ (∀ i, i < 18 ∨ 22 ≤ i → l[i]? = m[i]?)) : l = m := by
  have zat : ∀ (z : List UInt8), z.length = 512 → ∀ i, (z.take 18 ++ [0, 0, 0, 0] ++ z.drop 22)[i]? = if i < 18 then z[i]? else if i < 22 then some 0 else z[i]? := by
    intro z hz i
    have h18 : (z.take 18).length = 18 := by rw [List.length_take]; omega
    by_cases h1 : i < 18
    · rw [if_pos h1, List.append_assoc, List.getElem?_append_left (by omega), List.getElem?_take, if_pos h1]
    · rw [if_neg h1, List.append_assoc, List.getElem?_append_right (by omega), h18]
      by_cases h2 : i < 22
      · rw [if_pos h2, List.getElem?_append_left (by simp; omega)]
        have : i - 18 = 0 ∨ i - 18 = 1 ∨ i - 18 = 2 ∨ i - 18 = 3 := by omega
        rcases this with e | e | e | e <;> rw [e] <;> rfl
      · rw [if_neg h2, List.getElem?_append_right (by simp; omega), List.getElem?_drop]
        congr 1
        simp
        omega
  have zl : (l.take 18 ++ [0, 0, 0, 0] ++ l.drop 22).length = (m.take 18 ++ [0, 0, 0, 0] ++ m.drop 22).length := by simp [hl, hm]
  have hz : (l.take 18 ++ [0, 0, 0, 0] ++ l.drop 22) = (m.take 18 ++ [0, 0, 0, 0] ++ m.drop 22) := by
    rcases hc with hc | hc
    · refine Crc.sum_burst (p := p) zl (fun i hi => ?_) ?_
      · rw [zat l hl, zat m hm, h i hi]
      · refine low_inj4 (sum_lt _) (sum_lt _) ?_
        rw [← sl, ← sm]
        exact seg_ext fun i h1 h2 => hc i h1 (by omega)
    · refine List.ext_getElem? fun i => ?_
      rw [zat l hl, zat m hm]
      by_cases h1 : i < 18
      · rw [if_pos h1, if_pos h1, hc i (.inl h1)]
      · rw [if_neg h1, if_neg h1]
        by_cases h2 : i < 22
        · rw [if_pos h2, if_pos h2]
        · rw [if_neg h2, if_neg h2, hc i (.inr (by omega))]
  have hs : (l.drop 18).take 4 = (m.drop 18).take 4 := by rw [sl, sm, hz]
  refine List.ext_getElem? fun i => ?_
  by_cases h1 : 18 ≤ i ∧ i < 22
  · exact seg_at hs i h1.1 (by omega)
  · have h2 := congrArg (fun z => z[i]?) hz
    rw [zat l hl, zat m hm] at h2
    by_cases h3 : i < 18
    · rw [if_pos h3, if_pos h3] at h2
      exact h2
    · rw [if_neg h3, if_neg h3, if_neg (by omega), if_neg (by omega)] at h2
      exact h2

theorem meta_turned {l m : List UInt8} {p : Nat} (hl : l.length = 128) (hm : m.length = 128)
    (h : ∀ i, i < p ∨ p + 4 ≤ i → l[i]? = m[i]?)
    (sl : (l.drop 32).take 4 = Be.low (Crc.sum (l.take 32)) 4) (sm : (m.drop 32).take 4 = Be.low (Crc.sum (m.take 32)) 4) (tl : l.drop 36 = m.drop 36)
    (hc : (∀ i, 32 ≤ i → i < 36 → l[i]? = m[i]?) ∨ (∀ i, i < 32 ∨ 36 ≤ i → l[i]? = m[i]?)) : l = m := by
  have hz : l.take 32 = m.take 32 := by
    rcases hc with hc | hc
    · refine Crc.sum_burst (p := p) (by simp [hl, hm]) (fun i hi => ?_) ?_
      · rw [List.getElem?_take, List.getElem?_take, h i hi]
      · refine low_inj4 (sum_lt _) (sum_lt _) ?_
        rw [← sl, ← sm]
        exact seg_ext fun i h1 h2 => hc i h1 (by omega)
    · refine List.ext_getElem? fun i => ?_
      rw [List.getElem?_take, List.getElem?_take]
      by_cases h1 : i < 32
      · rw [if_pos h1, if_pos h1, hc i (.inl h1)]
      · rw [if_neg h1, if_neg h1]
  have hs : (l.drop 32).take 4 = (m.drop 32).take 4 := by rw [sl, sm, hz]
  have e : ∀ z : List UInt8, z = z.take 32 ++ ((z.drop 32).take 4 ++ z.drop 36) := fun z => by
    rw [show 36 = 32 + 4 by omega, ← List.drop_drop, List.take_append_drop, List.take_append_drop]
  rw [e l, e m, hz, hs, tl]

theorem meta_sums (t r f p l : Nat) : ((metaL t r f p l).drop 32).take 4 = Be.low (Crc.sum ((metaL t r f p l).take 32)) 4 ∧ (metaL t r f p l).drop 36 = List.replicate 92 0 := by
  have e : metaL t r f p l = metaHead t r f p l ++ (Be.low (Crc.sum (metaHead t r f p l)) 4 ++ List.replicate 92 0) := by unfold metaL; rw [List.append_assoc]
  have h1 : (metaL t r f p l).take 32 = metaHead t r f p l := by rw [e, List.take_left' (metaHead_len _ _ _ _ _)]
  have h2 : (metaL t r f p l).drop 32 = Be.low (Crc.sum (metaHead t r f p l)) 4 ++ List.replicate 92 0 := by rw [e, List.drop_left' (metaHead_len _ _ _ _ _)]
  refine ⟨by rw [h2, h1, List.take_left' (Be.low_len _ _)], ?_⟩
  rw [show 36 = 32 + 4 by omega, ← List.drop_drop, h2, List.drop_left' (Be.low_len _ _)]
end Go.Proofs.YtnlkhnmbfkpghaaDoor

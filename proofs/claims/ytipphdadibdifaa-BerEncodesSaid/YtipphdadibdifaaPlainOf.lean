/- Plain Lean: the bytes that OfNumber lays for a whole number. -/
import Derived.Test.YtipphdadibdifaaPlainNum
namespace Go.Proofs.Ytipphdadibdifaa
namespace PB

theorem num_from (l : List UInt8) : ∀ a : Nat, l.foldl (fun n c => n * 256 + c.toNat) a = a * 256 ^ l.length + num l := by
  induction l with
  | nil => intro a; simp [num]
  | cons c l ih =>
    intro a
    have e : num (c :: l) = l.foldl (fun n c => n * 256 + c.toNat) c.toNat := by simp [num]
    rw [List.foldl_cons, e, ih (a * 256 + c.toNat), ih c.toNat, List.length_cons, Nat.pow_succ, Nat.add_mul, Nat.mul_assoc, Nat.mul_comm 256 (256 ^ l.length)]
    omega

theorem num_cons (c : UInt8) (l : List UInt8) : num (c :: l) = c.toNat * 256 ^ l.length + num l := by
  have e : num (c :: l) = l.foldl (fun n c => n * 256 + c.toNat) c.toNat := by simp [num]
  rw [e, num_from]

theorem sgn_from (l : List UInt8) : ∀ a : Int, l.foldl (fun n x => n * 256 + (x.toNat : Int)) a = a * (256 ^ l.length : Nat) + (num l : Int) := by
  induction l with
  | nil => intro a; simp [num]
  | cons c l ih =>
    intro a
    rw [List.foldl_cons, ih, num_cons, List.length_cons, Nat.pow_succ]
    generalize 256 ^ l.length = p
    generalize num l = q
    rw [Int.natCast_mul, Int.natCast_add, Int.natCast_mul, Int.add_mul, Int.mul_assoc, Int.mul_comm (p : Int) ((256 : Nat) : Int)]
    rw [show ((256 : Nat) : Int) = 256 from rfl]
    omega

theorem sgn_cons (c : UInt8) (l : List UInt8) : sgn (c :: l) = (if c.toNat < 128 then (c.toNat : Int) else (c.toNat : Int) - 256) * (256 ^ l.length : Nat) + (num l : Int) := by
  have e : sgn (c :: l) = l.foldl (fun n x => n * 256 + (x.toNat : Int)) (if c.toNat < 128 then (c.toNat : Int) else (c.toNat : Int) - 256) := by simp [sgn, byt]
  rw [e, sgn_from]

/-- the low byte of a number. -/
def low (m : Int) : UInt8 := UInt8.ofNat (m % 256).toNat

/-- The loop as a function. -/
def ofRun : Nat → List UInt8 → Int → List UInt8
  | 0, l, _ => l
  | f + 1, l, m => if (m = 0 ∧ byt l 0 < 128) ∨ (m = -1 ∧ 128 ≤ byt l 0) then l else ofRun f (low m :: l) (m / 256)

/-- A number's bytes. -/
def ofNum (n : Int) : List UInt8 := ofRun 8 [low n] (n / 256)

/-- Where OfNumber's loop stands. -/
def OfAt (n : Int) (l : List UInt8) (m : Int) : Prop :=
  1 ≤ l.length ∧ l.length ≤ 8 ∧ n = m * (256 ^ l.length : Nat) + (num l : Int) ∧
    (1 < l.length → ¬ (m * 256 + byt l 0 = 0 ∧ byt l 1 < 128) ∧ ¬ (m * 256 + byt l 0 = -1 ∧ 128 ≤ byt l 1)) ∧ ofRun (9 - l.length) l m = ofNum n

theorem low_val (m : Int) : ((low m).toNat : Int) = m % 256 := by
  unfold low
  rw [UInt8.toNat_ofNat']
  omega

theorem OfAt.start (n : Int) : OfAt n [low n] (n / 256) := by
  refine ⟨by simp, by simp, ?_, fun h => by simp at h, rfl⟩
  have := low_val n
  rw [num_cons]
  simp [num]
  omega

/-- is it enough? -/
def enough (l : List UInt8) (m : Int) : Prop := (m = 0 ∧ byt l 0 < 128) ∨ (m = -1 ∧ 128 ≤ byt l 0)

theorem OfAt.full {n : Int} {l : List UInt8} {m : Int} (h : OfAt n l m) (h1 : -9223372036854775808 ≤ n) (h2 : n ≤ 9223372036854775807) (h8 : l.length = 8) : enough l m := by
  obtain ⟨_, _, hn, _⟩ := h
  cases l with
  | nil => simp at h8
  | cons c r =>
    have hr : r.length = 7 := by simpa using h8
    have hlt := num_lt r
    have hc := c.toNat_lt
    rw [num_cons, List.length_cons, hr] at hn
    rw [hr] at hlt
    have e8 : (256 ^ (7 + 1) : Nat) = 18446744073709551616 := by decide
    have e7 : (256 ^ 7 : Nat) = 72057594037927936 := by decide
    rw [e8, e7] at hn
    rw [e7] at hlt
    have hb : byt (c :: r) 0 = c.toNat := rfl
    unfold enough
    rw [hb]
    generalize num r = q at *
    generalize c.toNat = cc at *
    omega

theorem OfAt.next {n : Int} {l : List UInt8} {m : Int} (h : OfAt n l m) (h1 : -9223372036854775808 ≤ n) (h2 : n ≤ 9223372036854775807) (hs : ¬ enough l m) : OfAt n (low m :: l) (m / 256) := by
  have hf : l.length ≠ 8 := fun e => hs (h.full h1 h2 e)
  obtain ⟨a1, a2, a3, a4, a5⟩ := h
  refine ⟨by simp, by simp; omega, ?_, fun _ => ?_, ?_⟩
  · rw [num_cons, List.length_cons, Nat.pow_succ, Int.natCast_add, Int.natCast_mul, Int.natCast_mul, low_val, a3]
    generalize ((256 ^ l.length : Nat) : Int) = p
    have e : m = m / 256 * 256 + m % 256 := by omega
    have e2 : m * p = (m / 256) * 256 * p + m % 256 * p := by rw [← Int.add_mul, ← e]
    rw [e2, Int.mul_assoc (m / 256) 256 p, Int.mul_comm 256 p, show ((256 : Nat) : Int) = 256 from rfl]
    omega
  · have hb0 : byt (low m :: l) 0 = (low m).toNat := rfl
    have hb1 : byt (low m :: l) 1 = byt l 0 := rfl
    have hl := low_val m
    rw [hb0, hb1, hl]
    have e : m / 256 * 256 + m % 256 = m := by omega
    rw [e]
    unfold enough at hs
    omega
  · rw [← a5, List.length_cons, show 9 - l.length = (9 - (l.length + 1)) + 1 by omega]
    conv => rhs; unfold ofRun
    rw [if_neg (show ¬ ((m = 0 ∧ byt l 0 < 128) ∨ (m = -1 ∧ 128 ≤ byt l 0)) from hs)]

theorem OfAt.done {n : Int} {l : List UInt8} {m : Int} (h : OfAt n l m) (hs : enough l m) : sgn l = n ∧ isNum false l = true ∧ l = ofNum n := by
  obtain ⟨a1, a2, a3, a4, a5⟩ := h
  have a6 : l = ofNum n := by
    rw [← a5, show 9 - l.length = (8 - l.length) + 1 by omega]
    unfold ofRun
    rw [if_pos (show (m = 0 ∧ byt l 0 < 128) ∨ (m = -1 ∧ 128 ≤ byt l 0) from hs)]
  cases l with
  | nil => simp at a1
  | cons c r =>
    have hb : byt (c :: r) 0 = c.toNat := rfl
    unfold enough at hs
    rw [hb] at hs a4
    refine ⟨?_, ?_, a6⟩
    · rw [sgn_cons, a3, num_cons, List.length_cons, Nat.pow_succ]
      generalize 256 ^ r.length = p
      generalize num r = q
      rcases hs with ⟨rfl, hlt⟩ | ⟨rfl, hge⟩
      · rw [if_pos hlt]; simp
      · rw [if_neg (by omega), Int.sub_mul]
        simp
        omega
    · unfold isNum
      rw [hb]
      simp only [Bool.not_false, Bool.true_and, Bool.and_eq_true, decide_eq_true_eq, Bool.not_eq_true', a1, a2, true_and]
      by_cases hl : 1 < (c :: r).length
      · obtain ⟨b1, b2⟩ := a4 hl
        have k1 : ¬ (c.toNat = 0 ∧ byt (c :: r) 1 < 128) := by intro hh; apply b1; omega
        have k2 : ¬ (c.toNat = 255 ∧ 128 ≤ byt (c :: r) 1) := by intro hh; apply b2; omega
        cases hx : decide (1 < (c :: r).length) && (c.toNat == 0 && decide (byt (c :: r) 1 < 128) || c.toNat == 255 && decide (128 ≤ byt (c :: r) 1)) with
        | false => rfl
        | true =>
          exfalso
          simp at hx
          omega
      · rw [decide_eq_false hl, Bool.false_and]

end PB
end Go.Proofs.Ytipphdadibdifaa

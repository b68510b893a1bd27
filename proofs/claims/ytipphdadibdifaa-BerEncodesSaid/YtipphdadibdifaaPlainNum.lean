/- Plain Lean: whole numbers as bytes with a sign, as few as can be. -/
import Derived.Test.YtipphdadibdifaaPlainBits
import Derived.Test.YtipphdadibdifaaPlainBer
namespace Go.Proofs.Ytipphdadibdifaa
open Go.RowKit
open Go.PlainAid

/-- 'x | c' where the low byte of x is nought. -/
theorem i64_or_byte (n c : Int) (h0 : -36028797018963968 ≤ n) (h1 : n < 36028797018963968) (h2 : 0 ≤ c) (h3 : c ≤ 255) : bits BinOp.or IntKind.i64 (n * 256) c = n * 256 + c := by
  obtain ⟨b, rfl⟩ := Int.eq_ofNat_of_zero_le h2
  have e1 : (BitVec.ofInt 64 (n * 256)).toNat = ((n % 72057594037927936).toNat) * 256 := by
    rw [BitVec.toNat_ofInt]
    omega
  have e2 : (BitVec.ofInt 64 (b : Int)).toNat = b := by
    rw [BitVec.ofInt_natCast, BitVec.toNat_ofNat]; exact Nat.mod_eq_of_lt (by omega)
  show IntKind.i64.wrap ((BitVec.ofInt 64 (n * 256) ||| BitVec.ofInt 64 (b : Int)).toNat : Int) = _
  rw [BitVec.toNat_or, e1, e2, nat_or_256 _ b (by omega), IntKind.wrap_i64]
  omega

namespace PB

/-- the number with a sign of bytes. -/
def sgn (l : List UInt8) : Int := l.tail.foldl (fun n x => n * 256 + (x.toNat : Int)) (if byt l 0 < 128 then (byt l 0 : Int) else (byt l 0 : Int) - 256)

theorem sgn_snoc (l : List UInt8) (c : UInt8) (h : l ≠ []) : sgn (l ++ [c]) = sgn l * 256 + (c.toNat : Int) := by
  cases l with
  | nil => exact absurd rfl h
  | cons a r => simp [sgn, byt]

/-- a bound of so many bytes. -/
def half (k : Nat) : Int := 128 * 256 ^ k

theorem half_succ (k : Nat) : half (k + 1) = half k * 256 := by unfold half; rw [Int.pow_succ]; omega

theorem sgn_bound (n : Nat) : ∀ (l : List UInt8), l.length = n + 1 → - half n ≤ sgn l ∧ sgn l < half n := by
  induction n with
  | zero =>
    intro l hl
    match l, hl with
    | [a], _ =>
      have := a.toNat_lt
      unfold sgn half byt
      simp
      split <;> omega
  | succ n ih =>
    intro l hl
    have hne : l ≠ [] := by intro e; simp [e] at hl
    have e := List.dropLast_concat_getLast hne
    have hd : l.dropLast ≠ [] := by intro e2; have := congrArg List.length e2; simp [hl] at this
    have h1 := ih l.dropLast (by simp [hl])
    rw [← e, sgn_snoc _ _ hd, half_succ]
    have := (l.getLast hne).toNat_lt
    omega

/-- are these a number's bytes? -/
def isNum (cons : Bool) (l : List UInt8) : Bool :=
  !cons && decide (1 ≤ l.length) && decide (l.length ≤ 8) && !(decide (1 < l.length) && (byt l 0 == 0 && decide (byt l 1 < 128) || byt l 0 == 255 && decide (128 ≤ byt l 1)))

end PB
end Go.Proofs.Ytipphdadibdifaa

/- Plain Lean, no program: what the head of a value's bytes says, how long the value is. -/
import Derived.WalkKit
namespace Go.Proofs.Ytipphdadibdifaa
namespace PB

/-- the number of big-endian bytes. -/
def num (l : List UInt8) : Nat := l.foldl (fun n c => n * 256 + c.toNat) 0

theorem num_snoc (l : List UInt8) (c : UInt8) : num (l ++ [c]) = num l * 256 + c.toNat := by
  simp [num]

theorem num_go (l : List UInt8) : ∀ a : Nat, l.foldl (fun n c => n * 256 + c.toNat) a < (a + 1) * 256 ^ l.length := by
  induction l with
  | nil => intro a; simp
  | cons c l ih =>
    intro a
    have h := ih (a * 256 + c.toNat)
    have hc := c.toNat_lt
    have h2 : (a * 256 + c.toNat + 1) * 256 ^ l.length ≤ ((a + 1) * 256) * 256 ^ l.length := Nat.mul_le_mul_right _ (by omega)
    rw [List.foldl_cons, List.length_cons, Nat.pow_succ, Nat.mul_comm (256 ^ l.length) 256, ← Nat.mul_assoc]
    omega

theorem num_lt (l : List UInt8) : num l < 256 ^ l.length := by
  have h := num_go l 0
  rw [Nat.zero_add, Nat.one_mul] at h
  exact h

/-- byte k as a number, nought behind the end. -/
def byt (l : List UInt8) (k : Nat) : Nat := (l.getD k 0).toNat

theorem byt_lt (l : List UInt8) (k : Nat) : byt l k < 256 := (l.getD k 0).toNat_lt

/-- what head tells: place of the body, its length, the error's number. -/
def head (l : List UInt8) : Nat × Nat × Nat :=
  if l.length = 0 then (0, 0, 3) else
  if byt l 0 % 32 = 31 then (0, 0, 4) else
  if l.length < 2 then (0, 0, 3) else
  if byt l 1 < 128 then (2, byt l 1, 0) else
  if byt l 1 = 128 ∨ 132 < byt l 1 then (0, 0, 4) else
  if l.length < 2 + (byt l 1 - 128) then (0, 0, 3) else
  (2 + (byt l 1 - 128), num ((l.drop 2).take (byt l 1 - 128)), 0)

theorem head_le (l : List UInt8) : (head l).1 ≤ 6 ∧ (head l).2.1 < 4294967296 := by
  have hb := byt_lt l 1
  unfold head
  repeat' split
  all_goals first | (refine ⟨?_, ?_⟩ <;> simp only <;> omega) | skip
  rename_i h6
  refine ⟨show 2 + (byt l 1 - 128) ≤ 6 by omega, ?_⟩
  have hl : ((l.drop 2).take (byt l 1 - 128)).length ≤ 4 := by rw [List.length_take, List.length_drop]; omega
  have hp : 256 ^ ((l.drop 2).take (byt l 1 - 128)).length ≤ 256 ^ 4 := Nat.pow_le_pow_right (by omega) hl
  rw [show (256 : Nat) ^ 4 = 4294967296 from by decide] at hp
  have h := num_lt ((l.drop 2).take (byt l 1 - 128))
  generalize 256 ^ ((l.drop 2).take (byt l 1 - 128)).length = x at h hp
  dsimp only
  omega

/-- how many bytes a value has, and the error's number. -/
def total (l : List UInt8) : Nat × Nat :=
  if (head l).2.2 ≠ 0 then (0, (head l).2.2) else
  if 8192 < (head l).1 + (head l).2.1 then (0, 5) else ((head l).1 + (head l).2.1, 0)

end PB
end Go.Proofs.Ytipphdadibdifaa
